/- evergreenlaw27: OrderSearches. -/
import Derived.Test.YtlmdkaniblhdmaaDoorQ18
set_option linter.unusedVariables false
set_option linter.unusedSimpArgs false
namespace Sl
open Go Go.RowKit
theorem rd_sl {w0 : World} {g c m : Nat} {vs xs : List Value} {t : TypeId} (h : ∀ (i : Nat) (v : Value), vs[i]? = some v → xs[i]? = some v) : ∀ k, sl (some ⟨g, 0, none⟩) c t 1 m xs k → RdAt w0 g 0 vs k := fun k hk i v hv => by
  obtain ⟨_, h1 | ⟨g', cur, h1, h2, h3, h4, h5, h6⟩⟩ := hk
  · cases h1.1
  · cases h1
    refine .inr ⟨cur, t, (0, 0), h2, ?_⟩
    have hx := h i v hv
    rw [← h6, List.getElem?_take] at hx
    split at hx
    · rw [Nat.zero_add]; simpa using hx
    · cases hx
end Sl
namespace Go.Proofs.YtlmdkaniblhdmaaDoor
open Go Go.RowKit Sl Eg
set_option maxRecDepth 10000
variable {E : Env} {Es : List Ent} {pp tb s most : Nat}
theorem idC_take {ids : List Nat} {n i : Nat} {v : Value} (h : (idC (ids.take n))[i]? = some v) : (idC ids)[i]? = some v := by
  unfold idC at h ⊢
  rw [List.map_take, List.getElem?_take] at h
  split at h
  · exact h
  · cases h
theorem Sgs.texts {L : List Rl} {ts : List Tx} {ids : List Nat} (h : Sgs L ts ids) : ids.map (txt L) = bss ts := by
  apply List.ext_getElem?
  intro k
  by_cases hk : k < ts.length
  · have h1 : ts[k]? = some ts[k] := List.getElem?_eq_getElem hk
    have h2 : ids[k]? = some (ids[k]'(by rw [h.len]; exact hk)) := List.getElem?_eq_getElem _
    rw [List.getElem?_map, h2, bss_get h1]
    exact congrArg some (h.at_ k _ _ h1 h2).1
  · rw [List.getElem?_eq_none (by rw [List.length_map, h.len]; omega), List.getElem?_eq_none (by unfold bss; rw [List.length_map]; omega)]
theorem lens_append (ts : List Tx) (x : Tx) : lens (ts ++ [x]) = lens ts + x.bs.length := lens_snoc ts x
theorem txV_one (t : Tx) : (txV t).oneCell' = true := rfl
theorem ct_OrderSearches (hE : Seat E) (hB : Base E.w0) {ts : List Tx} {x : Tx} {A : Option Addr} {C : Nat} (hT : Rdb E.w0 A (ts.map txV) old) (hok0 : ∀ t ∈ ts, OkT E.w0 t) (hx : OkT E.w0 x) (hn : (ts.length + 1) * 24 ≤ 140737488355328) :
    Ct E 12 [.slice A ts.length C, .slice x.a x.bs.length x.c] [] (fun v Q => v = .bool true ∧ Q = []) := by
  refine fn_enter (hE.fn Tryd.func12) rfl rfl rfl (fun R => ?_)
  simp only [argsL, List.cons_append, List.nil_append]
  refine w_seq (w_region ?_)
  refine l_yield (y_assign rfl) rfl ?_
  refine l_nil (a_then (w_seq (w_seq (w_region ?_))))
  apply l_loud (by kernel_rfl) rfl
  refine ld_buildSlice0 (hE.t rfl) (fun b13 => ?_)
  have hok : ∀ t ∈ ts ++ [x], OkT E.w0 t := by intro t ht; simp at ht; rcases ht with h | rfl; exact hok0 t h; exact hx
  have hln : (ts ++ [x]).length = ts.length + 1 := by simp
  have hl1 : (ts ++ [x]).length ≤ 140737488355328 := by omega
  have hb1 : (0 + (ts.map txV).length) * 24 ≤ 140737488355328 := by rw [List.length_map]; omega
  have hb2 : 0 + (ts.map txV).length ≤ maxLen := by rw [List.length_map]; unfold maxLen; omega
  refine l_heap ent_old ?_
  refine l_yield (y_move rfl) rfl ?_
  apply l_loud (by kernel_rfl) rfl
  refine ld_append_any (us := ts.map txV) (q := old) (hE.t rfl) (hE.t rfl) rfl rfl rfl (by simp) hT (by ((repeat constructor); done)) (by ((repeat constructor); done)) (by simp [txV_one]) hb1 hb2 (fun p1 c1 m1 x1 hm1 hx1 => ?_)
  obtain rfl : m1 = ts.length := by rw [hm1]; simp
  obtain rfl : x1 = ts.map txV := by rw [hx1]; rfl
  refine l_yield (y_move rfl) rfl ?_
  apply l_loud (by kernel_rfl) rfl
  refine ld_buildSlice (hE.t rfl) (hE.t rfl) rfl rfl rfl (fun b17 => ?_)
  apply l_loud (by kernel_rfl) rfl
  apply ld_append (hE.t rfl) (hE.t rfl) rfl rfl rfl
  · ((repeat constructor); done)
  · ((repeat constructor); done)
  · rfl
  · rfl
  · omega
  · omega
  · (unfold maxLen; omega)
  intro g18 c18 n18 x18 hn18 hx18
  obtain rfl : n18 = (ts ++ [x]).length := by rw [hn18]; simp
  obtain rfl : x18 = (ts ++ [x]).map txV := by rw [hx18, List.map_append]; rfl
  have hq18 : Rdb E.w0 (some ⟨g18, 0, none⟩) ((ts ++ [x]).map txV) (sl (some ⟨g18, 0, none⟩) c18 31 1 (ts ++ [x]).length ((ts ++ [x]).map txV)) := fun _ => ⟨g18, 0, rfl, rd_sl (fun _ _ h => h)⟩
  apply l_loud (by kernel_rfl) rfl
  apply ld_call (ct_long hE hq18 hok hl1) rfl (hE.f (by kernel_rfl))
  · ((repeat constructor); done)
  rintro _ _ ⟨rfl, rfl⟩
  simp only [List.cons_append, List.nil_append]
  refine l_nil (a_then ?_)
  refine w_cond_d rfl (fun h1 => ?_) (fun h1 => ?_)
  · skip
    refine w_seq (w_region ?_)
    refine l_yield (y_assign rfl) rfl ?_
    refine l_nil (a_then (w_ret (a_then_ret ?_)))
    apply a_ret
    · rfl
    · (apply Rs.tmp rfl; exact Rs.nil)
    · exact ⟨rfl, rfl⟩
    · (apply ent; (repeat constructor); done)
  skip
  refine w_skip (a_then (w_seq (w_region ?_)))
  apply l_loud (by kernel_rfl) rfl
  refine ld_buildSlice0 (hE.t rfl) (fun b21 => ?_)
  refine l_yield (y_move rfl) rfl ?_
  refine l_heap ent_old ?_
  skip
  apply l_loud (by kernel_rfl) rfl
  refine ld_append_any (us := ts.map txV) (q := old) (hE.t rfl) (hE.t rfl) rfl rfl rfl (by simp) hT (by ((repeat constructor); done)) (by ((repeat constructor); done)) (by simp [txV_one]) hb1 hb2 (fun p1 c1 m1 x1 hm1 hx1 => ?_)
  obtain rfl : m1 = ts.length := by rw [hm1]; simp
  obtain rfl : x1 = ts.map txV := by rw [hx1]; rfl
  refine l_yield (y_move rfl) rfl ?_
  apply l_loud (by kernel_rfl) rfl
  refine ld_buildSlice (hE.t rfl) (hE.t rfl) rfl rfl rfl (fun b25 => ?_)
  apply l_loud (by kernel_rfl) rfl
  apply ld_append (hE.t rfl) (hE.t rfl) rfl rfl rfl
  · ((repeat constructor); done)
  · ((repeat constructor); done)
  · rfl
  · rfl
  · omega
  · omega
  · (unfold maxLen; omega)
  intro g26 c26 n26 x26 hn26 hx26
  obtain rfl : n26 = (ts ++ [x]).length := by rw [hn26]; simp
  obtain rfl : x26 = (ts ++ [x]).map txV := by rw [hx26, List.map_append]; rfl
  have hq26 : Rdb E.w0 (some ⟨g26, 0, none⟩) ((ts ++ [x]).map txV) (sl (some ⟨g26, 0, none⟩) c26 31 1 (ts ++ [x]).length ((ts ++ [x]).map txV)) := fun _ => ⟨g26, 0, rfl, rd_sl (fun _ _ h => h)⟩
  apply l_loud (by kernel_rfl) rfl
  apply ld_call (ct_begun hE hB hq26 hok (by omega)) rfl (hE.f (by kernel_rfl))
  · ((repeat constructor); done)
  rintro _ _ ⟨pp, s, tb, M, ids, p, c, rfl, hM, hsg, rfl⟩
  have hil := hsg.len
  have hlt := lens_append ts x
  have htx := hsg.texts
  obtain ⟨y, hy⟩ : ∃ y, ids[ts.length]? = some y := ⟨_, List.getElem?_eq_getElem (by omega)⟩
  obtain ⟨ty, gy, sy⟩ := hsg.at_ ts.length x y (by simp) hy
  have e1 : (ids.take ts.length).map (txt (rls M)) = bss ts := by
    rw [List.map_take, htx]
    simp [bss]
  have hlt2 : (ids.take ts.length).length = ts.length := by rw [List.length_take]; omega
  have hat : ∀ (k : Nat) (t : Tx) (u : Nat), ts[k]? = some t → ids[k]? = some u → txt (rls M) u = t.bs ∧ good (rls M) u ∧ Sg (rls M) t.bs u := fun k t u h1 h2 => hsg.at_ k t u (by rw [List.getElem?_append_left (List.getElem?_eq_some_iff.1 h1).1]; exact h1) h2
  have hall : ∀ u ∈ ids.take ts.length, good (rls M) u ∧ len (rls M) u ≤ 4000000 := by
    intro u hu
    obtain ⟨k, hk⟩ := List.getElem?_of_mem hu
    have hkl := (List.getElem?_eq_some_iff.1 hk).1
    rw [hlt2] at hkl
    rw [List.getElem?_take, if_pos hkl] at hk
    have ht : ts[k]? = some ts[k] := List.getElem?_eq_getElem hkl
    obtain ⟨r1, r2, _⟩ := hat k _ u ht hk
    refine ⟨r2, ?_⟩
    unfold len
    rw [r1]
    have := len_le_lens (List.mem_of_getElem? ht)
    omega
  have ly : len (rls M) y ≤ 4000000 := by unfold len; rw [ty]; omega
  simp only [List.cons_append, List.nil_append]
  refine l_say (p := sl p c 26 1 ids.length (idC ids)) (by ((repeat constructor); done)) (fun _ h => And.intro (sl_form h (by omega)) (sl_cap h)) ?_
  rintro ⟨⟨g, rfl⟩, hcap, -, -⟩
  refine l_say (p := storeP s 1048576 M) (by ((repeat constructor); done)) (fun _ h => storeP_says h) (fun hsay => ?_)
  have f0 := idC_get hy ts.length rfl
  have hqi : Rdb E.w0 (some ⟨g, 0, none⟩) (idC (ids.take ts.length)) (sl (some ⟨g, 0, none⟩) c 26 1 ids.length (idC ids)) := fun _ => ⟨g, 0, rfl, rd_sl (fun _ _ h => idC_take h)⟩
  refine l_yield (y_move rfl) rfl ?_
  refine l_yield (y_extract rfl rfl) rfl ?_
  refine l_yield (y_extract rfl rfl) rfl ?_
  refine l_yield (y_extract rfl rfl) rfl ?_
  refine l_yield (y_assign rfl) rfl ?_
  refine l_yield (y_assign rfl) rfl ?_
  refine l_yield (y_assign rfl) rfl ?_
  refine l_nil (a_then (w_seq (w_seq (w_region ?_))))
  refine l_yield (y_move rfl) rfl ?_
  refine l_yield (y_not rfl) rfl ?_
  refine l_nil (a_then ?_)
  refine w_cond_f rfl ?_
  skip
  refine w_skip (a_then (w_seq (w_region ?_)))
  refine l_yield (y_move rfl) rfl ?_
  refine l_yield (y_len_slice rfl (hE.t rfl)) rfl ?_
  refine l_yield (y_assign rfl) rfl ?_
  refine l_nil (a_then ?_)
  refine w_seq ?_
  refine w_held ([sl (some ⟨g, 0, none⟩) c 26 1 ids.length (idC ids)]) ?_ ?_
  · (apply ent; (repeat constructor); done)
  apply d_take 0 rfl
  · exact y_move rfl
  · with_reducible (repeat (first | exact calm_body | apply calm_then | apply calm_block))
  · kernel_rfl
  · rfl
  apply d_take 1 rfl
  · exact y_move rfl
  · with_reducible (repeat (first | exact calm_body | apply calm_then | apply calm_block))
  · kernel_rfl
  · rfl
  apply d_take 2 rfl
  · exact y_move rfl
  · with_reducible (repeat (first | exact calm_body | apply calm_then | apply calm_block))
  · kernel_rfl
  · rfl
  apply d_take 3 rfl
  · exact y_slice_hi _ rfl rfl (hE.t rfl) rfl (by omega)
  · with_reducible (repeat (first | exact calm_body | apply calm_then | apply calm_block))
  · kernel_rfl
  · rfl
  apply d_take 4 rfl
  · exact y_move rfl
  · with_reducible (repeat (first | exact calm_body | apply calm_then | apply calm_block))
  · kernel_rfl
  · rfl
  apply d_take 5 rfl
  · exact y_move rfl
  · with_reducible (repeat (first | exact calm_body | apply calm_then | apply calm_block))
  · kernel_rfl
  · rfl
  apply d_take 6 rfl
  · (first | exact y_indexAddr1 rfl rfl (hE.t rfl) (by omega) (by omega) | exact y_indexAddr rfl rfl (hE.t rfl) (by omega) (by omega))
  · with_reducible (repeat (first | exact calm_body | apply calm_then | apply calm_block))
  · kernel_rfl
  · rfl
  apply d_take 7 rfl
  · (first | (apply y_load rfl (hE.t rfl) rfl; (repeat (first | rfl | assumption | constructor)); done) | exact y_load_old rfl (hE.t rfl) rfl (by assumption) | (apply y_load_ro rfl (hE.t rfl) rfl; (focus ((repeat constructor); done)); (focus assumption)) | (apply y_load_q rfl (hE.t rfl) rfl (by assumption); (focus ((repeat constructor); done)); (first | ((focus exact f0); (focus omega)) | ((focus exact f1); (focus omega)) | ((focus assumption); (focus omega)))))
  · with_reducible (repeat (first | exact calm_body | apply calm_then | apply calm_block))
  · kernel_rfl
  · rfl
  apply d_loud 8 rfl (by kernel_rfl) rfl
  skip
  by_cases hs : Srt (bss ts)
  · have hcall := ct_Search (Es := M) (pp := pp) (tb := tb) (s := s) (most := 1048576) (x := y) (c := c) hE hB (fun u hu => (hall u hu).1) gy (fun u hu => (hall u hu).2) ly (by omega) hqi (by rw [e1]; exact hs)
    rw [hlt2, e1, ty] at hcall
    apply ld_call (hcall) rfl (hE.f (by kernel_rfl))
    · ((repeat constructor); done)
    rintro _ _ ⟨r, rfl, hr, rfl⟩
    simp only [List.cons_append, List.nil_append]
    have hle : srch (bss ts) x.bs ≤ ts.length := by have := cnt_le (fun A => decide (cmpT A x.bs < 0)) (bss ts); unfold bss at this; rw [List.length_map] at this; exact this
    refine ⟨by (apply ent; (repeat constructor); done), ?_⟩
    apply d_take 9 rfl
    · exact y_move rfl
    · with_reducible (repeat (first | exact calm_body | apply calm_then | apply calm_block))
    · kernel_rfl
    · rfl
    apply d_take 10 rfl
    · exact y_extract rfl rfl
    · with_reducible (repeat (first | exact calm_body | apply calm_then | apply calm_block))
    · kernel_rfl
    · rfl
    apply d_take 11 rfl
    · exact y_extract rfl rfl
    · with_reducible (repeat (first | exact calm_body | apply calm_then | apply calm_block))
    · kernel_rfl
    · rfl
    apply d_take 12 rfl
    · exact y_extract rfl rfl
    · with_reducible (repeat (first | exact calm_body | apply calm_then | apply calm_block))
    · kernel_rfl
    · rfl
    apply d_take 13 rfl
    · exact y_assign rfl
    · with_reducible (repeat (first | exact calm_body | apply calm_then | apply calm_block))
    · kernel_rfl
    · rfl
    apply d_take 14 rfl
    · exact y_assign rfl
    · with_reducible (repeat (first | exact calm_body | apply calm_then | apply calm_block))
    · kernel_rfl
    · rfl
    apply d_take 15 rfl
    · exact y_assign rfl
    · with_reducible (repeat (first | exact calm_body | apply calm_then | apply calm_block))
    · kernel_rfl
    · rfl
    refine d_nil (by kernel_rfl) ?_
    refine a_then (w_seq (w_seq (w_region ?_)))
    refine l_yield (y_move rfl) rfl ?_
    refine l_heap ent_old ?_
    apply l_loud (by kernel_rfl) rfl
    apply ld_call (ct_refSorted (ts := ts) hE hT hok0 (by omega) (b := true) ⟨fun _ => hs, fun _ => rfl⟩) rfl (hE.f (by kernel_rfl))
    · ((repeat constructor); done)
    rintro _ _ ⟨rfl, rfl⟩
    simp only [List.cons_append, List.nil_append]
    refine l_yield (y_not rfl) rfl ?_
    refine l_nil (a_then ?_)
    refine w_cond_f rfl ?_
    refine w_skip (a_then (w_seq (w_region ?_)))
    refine l_yield (y_move rfl) rfl ?_
    refine l_yield (y_move rfl) rfl ?_
    apply l_loud (by kernel_rfl) rfl
    apply ld_call (ct_refSearch (ts := ts) hE hT hok0 hx (by omega)) rfl (hE.f (by kernel_rfl))
    · ((repeat constructor); done)
    rintro _ _ ⟨rfl, rfl⟩
    simp only [List.cons_append, List.nil_append]
    generalize srch (bss ts) x.bs = m at hr hle ⊢
    refine l_yield (y_assign rfl) rfl ?_
    refine l_nil (a_then ?_)
    refine w_seq ?_
    refine w_held ([sl (some ⟨g, 0, none⟩) c 26 1 ids.length (idC ids)]) ?_ ?_
    · (apply ent; (repeat constructor); done)
    apply d_take 0 rfl
    · exact y_move rfl
    · with_reducible (repeat (first | exact calm_body | apply calm_then | apply calm_block))
    · kernel_rfl
    · rfl
    apply d_take 1 rfl
    · (first | exact y_ok_eq rfl (hE.t rfl) | exact y_err_eq rfl (hE.t rfl))
    · with_reducible (repeat (first | exact calm_body | apply calm_then | apply calm_block))
    · kernel_rfl
    · rfl
    apply d_take 2 rfl
    · exact y_move rfl
    · with_reducible (repeat (first | exact calm_body | apply calm_then | apply calm_block))
    · kernel_rfl
    · rfl
    skip
    apply d_on 3 rfl rfl rfl
    · exact y_move rfl
    · with_reducible (repeat (first | exact calm_body | apply calm_then | apply calm_block))
    · kernel_rfl
    · rfl
    apply d_on 4 rfl rfl rfl
    · exact y_move rfl
    · with_reducible (repeat (first | exact calm_body | apply calm_then | apply calm_block))
    · kernel_rfl
    · rfl
    apply d_on 5 rfl rfl rfl
    · exact y_eq rfl rfl
    · with_reducible (repeat (first | exact calm_body | apply calm_then | apply calm_block))
    · kernel_rfl
    · rfl
    apply d_take 6 rfl
    · (first | exact y_pick_t rfl rfl | exact y_pick_f rfl rfl)
    · with_reducible (repeat (first | exact calm_body | apply calm_then | apply calm_block))
    · kernel_rfl
    · rfl
    apply d_take 7 rfl
    · exact y_move rfl
    · with_reducible (repeat (first | exact calm_body | apply calm_then | apply calm_block))
    · kernel_rfl
    · rfl
    refine d_eq 71 (.bool true) rfl (by simp) ?_
    skip
    apply d_on 8 rfl rfl rfl
    · exact y_move rfl
    · with_reducible (repeat (first | exact calm_body | apply calm_then | apply calm_block))
    · kernel_rfl
    · rfl
    apply d_on 9 rfl rfl rfl
    · exact y_move rfl
    · with_reducible (repeat (first | exact calm_body | apply calm_then | apply calm_block))
    · kernel_rfl
    · rfl
    apply d_on 10 rfl rfl rfl
    · exact y_move rfl
    · with_reducible (repeat (first | exact calm_body | apply calm_then | apply calm_block))
    · kernel_rfl
    · rfl
    apply d_on 11 rfl rfl rfl
    · exact y_lt rfl rfl
    · with_reducible (repeat (first | exact calm_body | apply calm_then | apply calm_block))
    · kernel_rfl
    · rfl
    apply d_on 12 rfl rfl rfl
    · exact y_move rfl
    · with_reducible (repeat (first | exact calm_body | apply calm_then | apply calm_block))
    · kernel_rfl
    · rfl
    refine d_split 76 rfl (fun h2 => ?_) (fun h2 => ?_)
    · skip
      have hm : m < ts.length := by omega
      obtain ⟨u, hu⟩ : ∃ u, ids[m]? = some u := ⟨_, List.getElem?_eq_getElem (by omega)⟩
      have f1 := idC_get hu m rfl
      obtain ⟨t1, ht1⟩ : ∃ t1, ts[m]? = some t1 := ⟨_, List.getElem?_eq_getElem hm⟩
      obtain ⟨r1, r2, r3⟩ := hat m t1 u ht1 hu
      have hru : r = true ↔ (u : Int) = (y : Nat) := by
        rw [hr]
        constructor
        · rintro ⟨v, hv, e⟩
          rw [List.getElem?_take, if_pos hm, hu] at hv
          cases hv
          rw [r1] at e
          rw [e] at r3
          rw [r3.fn hsay.1 sy]
        · intro e
          have e' : u = y := by omega
          exact ⟨u, by rw [List.getElem?_take, if_pos hm]; exact hu, by rw [e', ty]⟩
      apply d_on 13 rfl rfl rfl
      · exact y_move rfl
      · with_reducible (repeat (first | exact calm_body | apply calm_then | apply calm_block))
      · kernel_rfl
      · rfl
      apply d_on 14 rfl rfl rfl
      · exact y_move rfl
      · with_reducible (repeat (first | exact calm_body | apply calm_then | apply calm_block))
      · kernel_rfl
      · rfl
      apply d_on 15 rfl rfl rfl
      · (first | exact y_indexAddr1 rfl rfl (hE.t rfl) (by omega) (by omega) | exact y_indexAddr rfl rfl (hE.t rfl) (by omega) (by omega))
      · with_reducible (repeat (first | exact calm_body | apply calm_then | apply calm_block))
      · kernel_rfl
      · rfl
      apply d_on 16 rfl rfl rfl
      · (first | (apply y_load rfl (hE.t rfl) rfl; (repeat (first | rfl | assumption | constructor)); done) | exact y_load_old rfl (hE.t rfl) rfl (by assumption) | (apply y_load_ro rfl (hE.t rfl) rfl; (focus ((repeat constructor); done)); (focus assumption)) | (apply y_load_q rfl (hE.t rfl) rfl (by assumption); (focus ((repeat constructor); done)); (first | ((focus exact f0); (focus omega)) | ((focus exact f1); (focus omega)) | ((focus assumption); (focus omega)))))
      · with_reducible (repeat (first | exact calm_body | apply calm_then | apply calm_block))
      · kernel_rfl
      · rfl
      apply d_on 17 rfl rfl rfl
      · exact y_move rfl
      · with_reducible (repeat (first | exact calm_body | apply calm_then | apply calm_block))
      · kernel_rfl
      · rfl
      apply d_on 18 rfl rfl rfl
      · exact y_move rfl
      · with_reducible (repeat (first | exact calm_body | apply calm_then | apply calm_block))
      · kernel_rfl
      · rfl
      apply d_on 19 rfl rfl rfl
      · (first | exact y_indexAddr1 rfl rfl (hE.t rfl) (by omega) (by omega) | exact y_indexAddr rfl rfl (hE.t rfl) (by omega) (by omega))
      · with_reducible (repeat (first | exact calm_body | apply calm_then | apply calm_block))
      · kernel_rfl
      · rfl
      apply d_on 20 rfl rfl rfl
      · (first | (apply y_load rfl (hE.t rfl) rfl; (repeat (first | rfl | assumption | constructor)); done) | exact y_load_old rfl (hE.t rfl) rfl (by assumption) | (apply y_load_ro rfl (hE.t rfl) rfl; (focus ((repeat constructor); done)); (focus assumption)) | (apply y_load_q rfl (hE.t rfl) rfl (by assumption); (focus ((repeat constructor); done)); (first | ((focus exact f0); (focus omega)) | ((focus exact f1); (focus omega)) | ((focus assumption); (focus omega)))))
      · with_reducible (repeat (first | exact calm_body | apply calm_then | apply calm_block))
      · kernel_rfl
      · rfl
      apply d_on 21 rfl rfl rfl
      · exact y_eq rfl rfl
      · with_reducible (repeat (first | exact calm_body | apply calm_then | apply calm_block))
      · kernel_rfl
      · rfl
      apply d_on 22 rfl rfl rfl
      · (first | exact y_pick_t rfl rfl | exact y_pick_f rfl rfl)
      · with_reducible (repeat (first | exact calm_body | apply calm_then | apply calm_block))
      · kernel_rfl
      · rfl
      apply d_on 23 rfl rfl rfl
      · exact y_eq_bool rfl rfl (hE.t rfl)
      · with_reducible (repeat (first | exact calm_body | apply calm_then | apply calm_block))
      · kernel_rfl
      · rfl
      apply d_take 24 rfl
      · (first | exact y_pick_t rfl rfl | exact y_pick_f rfl rfl)
      · with_reducible (repeat (first | exact calm_body | apply calm_then | apply calm_block))
      · kernel_rfl
      · rfl
      apply d_take 25 rfl
      · exact y_assign rfl
      · with_reducible (repeat (first | exact calm_body | apply calm_then | apply calm_block))
      · kernel_rfl
      · rfl
      refine d_nil (by kernel_rfl) ?_
      refine a_then (w_ret ?_)
      apply a_ret
      · rfl
      · (apply Rs.tmp rfl; exact Rs.nil)
      · refine ⟨?_, rfl⟩
        simp only [one]
        congr 1
        refine decide_eq_true ?_
        cases r with
        | true => exact (decide_eq_true (hru.1 rfl)).symm
        | false => exact (decide_eq_false (fun h => by have := hru.2 h; cases this)).symm
      · (apply ent; (repeat constructor); done)
    · skip
      have hrf : r = false := by
        cases r with
        | false => rfl
        | true =>
          obtain ⟨v, hv, _⟩ := hr.1 rfl
          rw [List.getElem?_take, if_neg (by omega)] at hv
          cases hv
      subst hrf
      refine d_off 13 rfl rfl rfl rfl (by with_reducible (repeat (first | exact calm_body | apply calm_then | apply calm_block))) (by kernel_rfl) rfl ?_
      refine d_off 14 rfl rfl rfl rfl (by with_reducible (repeat (first | exact calm_body | apply calm_then | apply calm_block))) (by kernel_rfl) rfl ?_
      refine d_off 15 rfl rfl rfl rfl (by with_reducible (repeat (first | exact calm_body | apply calm_then | apply calm_block))) (by kernel_rfl) rfl ?_
      refine d_off 16 rfl rfl rfl rfl (by with_reducible (repeat (first | exact calm_body | apply calm_then | apply calm_block))) (by kernel_rfl) rfl ?_
      refine d_off 17 rfl rfl rfl rfl (by with_reducible (repeat (first | exact calm_body | apply calm_then | apply calm_block))) (by kernel_rfl) rfl ?_
      refine d_off 18 rfl rfl rfl rfl (by with_reducible (repeat (first | exact calm_body | apply calm_then | apply calm_block))) (by kernel_rfl) rfl ?_
      refine d_off 19 rfl rfl rfl rfl (by with_reducible (repeat (first | exact calm_body | apply calm_then | apply calm_block))) (by kernel_rfl) rfl ?_
      refine d_off 20 rfl rfl rfl rfl (by with_reducible (repeat (first | exact calm_body | apply calm_then | apply calm_block))) (by kernel_rfl) rfl ?_
      refine d_off 21 rfl rfl rfl rfl (by with_reducible (repeat (first | exact calm_body | apply calm_then | apply calm_block))) (by kernel_rfl) rfl ?_
      apply d_on 22 rfl rfl rfl
      · (first | exact y_pick_t rfl rfl | exact y_pick_f rfl rfl)
      · with_reducible (repeat (first | exact calm_body | apply calm_then | apply calm_block))
      · kernel_rfl
      · rfl
      apply d_on 23 rfl rfl rfl
      · exact y_eq_bool rfl rfl (hE.t rfl)
      · with_reducible (repeat (first | exact calm_body | apply calm_then | apply calm_block))
      · kernel_rfl
      · rfl
      apply d_take 24 rfl
      · (first | exact y_pick_t rfl rfl | exact y_pick_f rfl rfl)
      · with_reducible (repeat (first | exact calm_body | apply calm_then | apply calm_block))
      · kernel_rfl
      · rfl
      apply d_take 25 rfl
      · exact y_assign rfl
      · with_reducible (repeat (first | exact calm_body | apply calm_then | apply calm_block))
      · kernel_rfl
      · rfl
      refine d_nil (by kernel_rfl) ?_
      refine a_then (w_ret ?_)
      apply a_ret
      · rfl
      · (apply Rs.tmp rfl; exact Rs.nil)
      · exact ⟨by simp [one], rfl⟩
      · (apply ent; (repeat constructor); done)
  · skip
    have hcall := ct_Search_no (Es := M) (pp := pp) (tb := tb) (s := s) (most := 1048576) (x := y) (c := c) hE hB (fun u hu => (hall u hu).1) gy (fun u hu => (hall u hu).2) (by omega) hqi (by rw [e1]; exact hs)
    rw [hlt2] at hcall
    apply ld_call (hcall) rfl (hE.f (by kernel_rfl))
    · ((repeat constructor); done)
    rintro _ _ ⟨rfl, rfl⟩
    simp only [List.cons_append, List.nil_append]
    refine ⟨by (apply ent; (repeat constructor); done), ?_⟩
    apply d_take 9 rfl
    · exact y_move rfl
    · with_reducible (repeat (first | exact calm_body | apply calm_then | apply calm_block))
    · kernel_rfl
    · rfl
    apply d_take 10 rfl
    · exact y_extract rfl rfl
    · with_reducible (repeat (first | exact calm_body | apply calm_then | apply calm_block))
    · kernel_rfl
    · rfl
    apply d_take 11 rfl
    · exact y_extract rfl rfl
    · with_reducible (repeat (first | exact calm_body | apply calm_then | apply calm_block))
    · kernel_rfl
    · rfl
    apply d_take 12 rfl
    · exact y_extract rfl rfl
    · with_reducible (repeat (first | exact calm_body | apply calm_then | apply calm_block))
    · kernel_rfl
    · rfl
    apply d_take 13 rfl
    · exact y_assign rfl
    · with_reducible (repeat (first | exact calm_body | apply calm_then | apply calm_block))
    · kernel_rfl
    · rfl
    apply d_take 14 rfl
    · exact y_assign rfl
    · with_reducible (repeat (first | exact calm_body | apply calm_then | apply calm_block))
    · kernel_rfl
    · rfl
    apply d_take 15 rfl
    · exact y_assign rfl
    · with_reducible (repeat (first | exact calm_body | apply calm_then | apply calm_block))
    · kernel_rfl
    · rfl
    refine d_nil (by kernel_rfl) ?_
    refine a_then (w_seq (w_seq (w_region ?_)))
    refine l_yield (y_move rfl) rfl ?_
    refine l_heap ent_old ?_
    apply l_loud (by kernel_rfl) rfl
    apply ld_call (ct_refSorted (ts := ts) hE hT hok0 (by omega) (b := false) ⟨fun h => (by cases h), fun h => absurd h hs⟩) rfl (hE.f (by kernel_rfl))
    · ((repeat constructor); done)
    rintro _ _ ⟨rfl, rfl⟩
    simp only [List.cons_append, List.nil_append]
    refine l_yield (y_not rfl) rfl ?_
    refine l_nil (a_then ?_)
    refine w_cond_t rfl ?_
    refine w_seq (w_region ?_)
    refine l_yield (y_move rfl) rfl ?_
    refine l_yield (y_eq rfl rfl) rfl ?_
    refine l_yield (y_move rfl) rfl ?_
    skip
    refine l_on rfl rfl ?_
    refine l_yield (y_move rfl) rfl ?_
    refine l_on rfl rfl ?_
    refine l_yield (y_not rfl) rfl ?_
    apply l_yield
    · (first | exact y_pick_t rfl rfl | exact y_pick_f rfl rfl)
    · rfl
    refine l_yield (y_move rfl) rfl ?_
    skip
    refine l_on rfl rfl ?_
    refine l_yield (y_move rfl) rfl ?_
    refine l_on rfl rfl ?_
    apply l_loud (by kernel_rfl) rfl
    apply ld_call (ct_Is hE (by decide)) rfl (hE.f (by kernel_rfl))
    · ((repeat constructor); done)
    rintro _ _ ⟨rfl, rfl⟩
    simp only [List.cons_append, List.nil_append]
    apply l_yield
    · (first | exact y_pick_t rfl rfl | exact y_pick_f rfl rfl)
    · rfl
    refine l_yield (y_assign rfl) rfl ?_
    refine l_nil (a_then (w_ret (a_then_ret ?_)))
    apply a_ret
    · rfl
    · (apply Rs.tmp rfl; exact Rs.nil)
    · exact ⟨rfl, rfl⟩
    · (apply ent; (repeat constructor); done)
end Go.Proofs.YtlmdkaniblhdmaaDoor
/- evergreenlaw27: OrderRanges. -/
namespace Go.Proofs.YtlmdkaniblhdmaaDoor
open Go Go.RowKit Sl Eg
set_option maxRecDepth 10000
variable {E : Env} {Es : List Ent} {pp tb s most : Nat}
theorem ct_range1 (hE : Seat E) (hB : Base E.w0) {ids : List Nat} {x i m u : Nat} (hu : ids[m + i]? = some u) (gu : good (rls Es) u) (hx : good (rls Es) x) (hl : len (rls Es) u + len (rls Es) x < 8388608) (hn : ids.length ≤ 1099511627776) {g o c b3 b4 b5 b10 : Nat} {q : HP} (hqq : ∀ k, q k → RdAt E.w0 g o (idC ids) k) :
    Ct E 97 [.int .i64 (i : Nat), .pointer (some ⟨b3, 0, none⟩), .pointer (some ⟨b4, 0, none⟩), .pointer (some ⟨b10, 0, none⟩), .pointer (some ⟨b5, 0, none⟩)] [cells b3 [.pointer (some ⟨pp, 0, none⟩)] 22, cells b4 [.slice (some ⟨g, o, none⟩) ids.length c] 48, cells b10 [.int .i64 (m : Nat)] 3, cells b5 [.int .i64 (x : Nat)] 26, cells pp [.pointer (some ⟨s, 0, none⟩), .pointer (some ⟨tb, 0, none⟩)] 108, tabP tb s (rls Es), storeP s most Es, q]
      (fun v Q => v = .bool (!decide (Bgn (txt (rls Es) u) (txt (rls Es) x))) ∧ Q = [cells b3 [.pointer (some ⟨pp, 0, none⟩)] 22, cells b4 [.slice (some ⟨g, o, none⟩) ids.length c] 48, cells b10 [.int .i64 (m : Nat)] 3, cells b5 [.int .i64 (x : Nat)] 26, cells pp [.pointer (some ⟨s, 0, none⟩), .pointer (some ⟨tb, 0, none⟩)] 108, tabP tb s (rls Es), storeP s most Es, q]) := by
  have hil := (List.getElem?_eq_some_iff.1 hu).1
  have f0 := idC_get hu (m + i) rfl
  refine fn_enter (hE.fn Tryd.func97) rfl rfl rfl (fun R => ?_)
  simp only [argsL, List.cons_append, List.nil_append]
  refine w_seq (w_region ?_)
  refine l_yield (y_assign rfl) rfl ?_
  refine l_nil (a_then ?_)
  refine w_seq ?_
  refine w_held ([cells b3 [.pointer (some ⟨pp, 0, none⟩)] 22, cells b4 [.slice (some ⟨g, o, none⟩) ids.length c] 48, cells b10 [.int .i64 (m : Nat)] 3, cells b5 [.int .i64 (x : Nat)] 26, q]) ?_ ?_
  · (apply ent; (repeat constructor); done)
  apply d_take 0 rfl
  · (first | (apply y_load rfl (hE.t rfl) rfl; (repeat (first | rfl | assumption | constructor)); done) | exact y_load_old rfl (hE.t rfl) rfl (by assumption) | (apply y_load_ro rfl (hE.t rfl) rfl; (focus ((repeat constructor); done)); (focus assumption)) | (apply y_load_q rfl (hE.t rfl) rfl (by assumption); (focus ((repeat constructor); done)); (first | ((focus exact f0); (focus omega)) | ((focus exact f1); (focus omega)) | ((focus assumption); (focus omega)))))
  · with_reducible (repeat (first | exact calm_body | apply calm_then | apply calm_block))
  · kernel_rfl
  · rfl
  apply d_take 1 rfl
  · (first | (apply y_load rfl (hE.t rfl) rfl; (repeat (first | rfl | assumption | constructor)); done) | exact y_load_old rfl (hE.t rfl) rfl (by assumption) | (apply y_load_ro rfl (hE.t rfl) rfl; (focus ((repeat constructor); done)); (focus assumption)) | (apply y_load_q rfl (hE.t rfl) rfl (by assumption); (focus ((repeat constructor); done)); (first | ((focus exact f0); (focus omega)) | ((focus exact f1); (focus omega)) | ((focus assumption); (focus omega)))))
  · with_reducible (repeat (first | exact calm_body | apply calm_then | apply calm_block))
  · kernel_rfl
  · rfl
  apply d_take 2 rfl
  · (first | (apply y_load rfl (hE.t rfl) rfl; (repeat (first | rfl | assumption | constructor)); done) | exact y_load_old rfl (hE.t rfl) rfl (by assumption) | (apply y_load_ro rfl (hE.t rfl) rfl; (focus ((repeat constructor); done)); (focus assumption)) | (apply y_load_q rfl (hE.t rfl) rfl (by assumption); (focus ((repeat constructor); done)); (first | ((focus exact f0); (focus omega)) | ((focus exact f1); (focus omega)) | ((focus assumption); (focus omega)))))
  · with_reducible (repeat (first | exact calm_body | apply calm_then | apply calm_block))
  · kernel_rfl
  · rfl
  apply d_take 3 rfl
  · exact y_move rfl
  · with_reducible (repeat (first | exact calm_body | apply calm_then | apply calm_block))
  · kernel_rfl
  · rfl
  apply d_take 4 rfl
  · exact y_add rfl rfl (by omega) (by omega)
  · with_reducible (repeat (first | exact calm_body | apply calm_then | apply calm_block))
  · kernel_rfl
  · rfl
  apply d_take 5 rfl
  · (first | exact y_indexAddr1 rfl rfl (hE.t rfl) (by omega) (by omega) | exact y_indexAddr rfl rfl (hE.t rfl) (by omega) (by omega))
  · with_reducible (repeat (first | exact calm_body | apply calm_then | apply calm_block))
  · kernel_rfl
  · rfl
  apply d_take 6 rfl
  · (first | (apply y_load rfl (hE.t rfl) rfl; (repeat (first | rfl | assumption | constructor)); done) | exact y_load_old rfl (hE.t rfl) rfl (by assumption) | (apply y_load_ro rfl (hE.t rfl) rfl; (focus ((repeat constructor); done)); (focus assumption)) | (apply y_load_q rfl (hE.t rfl) rfl (by assumption); (focus ((repeat constructor); done)); (first | ((focus exact f0); (focus omega)) | ((focus exact f1); (focus omega)) | ((focus assumption); (focus omega)))))
  · with_reducible (repeat (first | exact calm_body | apply calm_then | apply calm_block))
  · kernel_rfl
  · rfl
  apply d_take 7 rfl
  · (first | (apply y_load rfl (hE.t rfl) rfl; (repeat (first | rfl | assumption | constructor)); done) | exact y_load_old rfl (hE.t rfl) rfl (by assumption) | (apply y_load_ro rfl (hE.t rfl) rfl; (focus ((repeat constructor); done)); (focus assumption)) | (apply y_load_q rfl (hE.t rfl) rfl (by assumption); (focus ((repeat constructor); done)); (first | ((focus exact f0); (focus omega)) | ((focus exact f1); (focus omega)) | ((focus assumption); (focus omega)))))
  · with_reducible (repeat (first | exact calm_body | apply calm_then | apply calm_block))
  · kernel_rfl
  · rfl
  apply d_loud 8 rfl (by kernel_rfl) rfl
  apply ld_call (ct_begins hE hB gu hx hl) rfl (hE.f (by kernel_rfl))
  · ((repeat constructor); done)
  rintro _ _ ⟨rfl, rfl⟩
  simp only [List.cons_append, List.nil_append]
  refine ⟨by (apply ent; (repeat constructor); done), ?_⟩
  apply d_take 9 rfl
  · exact y_not rfl
  · with_reducible (repeat (first | exact calm_body | apply calm_then | apply calm_block))
  · kernel_rfl
  · rfl
  apply d_take 10 rfl
  · exact y_assign rfl
  · with_reducible (repeat (first | exact calm_body | apply calm_then | apply calm_block))
  · kernel_rfl
  · rfl
  refine d_nil (by kernel_rfl) ?_
  refine a_then (w_ret ?_)
  apply a_ret
  · rfl
  · (apply Rs.tmp rfl; exact Rs.nil)
  · exact ⟨rfl, rfl⟩
  · (apply ent; (repeat constructor); done)
theorem ct_Range27 (hE : Seat E) (hB : Base E.w0) {ids : List Nat} {x : Nat} (hg : ∀ x ∈ ids, good (rls Es) x) (hx : good (rls Es) x) (hl : ∀ x ∈ ids, len (rls Es) x ≤ 4000000) (hlx : len (rls Es) x ≤ 4000000) (hn : ids.length ≤ 1099511627776) {a : Option Addr} {c : Nat} {q : HP} (hq : Rdb E.w0 a (idC ids) q) (hs : Srt (ids.map (txt (rls Es)))) :
    Ct E 60 [.pointer (some ⟨pp, 0, none⟩), .slice a ids.length c, .int .i64 (x : Nat)] [cells pp [.pointer (some ⟨s, 0, none⟩), .pointer (some ⟨tb, 0, none⟩)] 108, tabP tb s (rls Es), storeP s most Es, q] (fun v Q => v = .tuple #[.int .i64 (srch (ids.map (txt (rls Es))) (txt (rls Es) x) : Nat), .int .i64 ((srch (ids.map (txt (rls Es))) (txt (rls Es) x) + bgns (ids.map (txt (rls Es))) (txt (rls Es) x) : Nat) : Int), .nilIface] ∧ Q = [cells pp [.pointer (some ⟨s, 0, none⟩), .pointer (some ⟨tb, 0, none⟩)] 108, tabP tb s (rls Es), storeP s most Es, q]) := by
  have hl2 : ∀ y ∈ ids, len (rls Es) y + len (rls Es) x < 8388608 := fun y hy => by have := hl y hy; omega
  have hbb : true = true ↔ Srt (ids.map (txt (rls Es))) := ⟨fun _ => hs, fun _ => rfl⟩
  have hgo : goFn E.P 97 = true := hE.f (by kernel_rfl)
  have hle := bgns_le (ids.map (txt (rls Es))) (txt (rls Es) x)
  rw [List.length_map] at hle
  have hb0 : ∀ i u, i < bgns (ids.map (txt (rls Es))) (txt (rls Es) x) → ids[srch (ids.map (txt (rls Es))) (txt (rls Es) x) + i]? = some u → Bgn (txt (rls Es) u) (txt (rls Es) x) := fun i u hi hu => bgns_lt hi (by simp [hu])
  have hb1 : ∀ i u, bgns (ids.map (txt (rls Es))) (txt (rls Es) x) ≤ i → ids[srch (ids.map (txt (rls Es))) (txt (rls Es) x) + i]? = some u → ¬ Bgn (txt (rls Es) u) (txt (rls Es) x) := fun i u hi hu => bgns_ge hs hi (by simp [hu])
  refine fn_enter (hE.fn Tryd.func60) rfl rfl rfl (fun R => ?_)
  simp only [argsL, List.cons_append, List.nil_append]
  refine w_seq (w_region ?_)
  apply l_loud (by kernel_rfl) rfl
  refine ld_box rfl (fun b3 => ?_)
  apply l_loud (by kernel_rfl) rfl
  refine ld_box rfl (fun b4 => ?_)
  apply l_loud (by kernel_rfl) rfl
  refine ld_box rfl (fun b5 => ?_)
  refine l_yield (y_assign rfl) rfl ?_
  refine l_yield (y_assign rfl) rfl ?_
  refine l_yield (y_assign rfl) rfl ?_
  refine l_nil (a_then (w_seq (w_seq (w_region ?_))))
  apply l_yield
  · (first | (apply y_load rfl (hE.t rfl) rfl; (repeat (first | rfl | assumption | constructor)); done) | exact y_load_old rfl (hE.t rfl) rfl (by assumption) | (apply y_load_ro rfl (hE.t rfl) rfl; (focus ((repeat constructor); done)); (focus assumption)) | (apply y_load_q rfl (hE.t rfl) rfl (by assumption); (focus ((repeat constructor); done)); (first | ((focus exact f0); (focus omega)) | ((focus exact f1); (focus omega)) | ((focus assumption); (focus omega)))))
  · rfl
  apply l_yield
  · (first | (apply y_load rfl (hE.t rfl) rfl; (repeat (first | rfl | assumption | constructor)); done) | exact y_load_old rfl (hE.t rfl) rfl (by assumption) | (apply y_load_ro rfl (hE.t rfl) rfl; (focus ((repeat constructor); done)); (focus assumption)) | (apply y_load_q rfl (hE.t rfl) rfl (by assumption); (focus ((repeat constructor); done)); (first | ((focus exact f0); (focus omega)) | ((focus exact f1); (focus omega)) | ((focus assumption); (focus omega)))))
  · rfl
  apply l_yield
  · (first | (apply y_load rfl (hE.t rfl) rfl; (repeat (first | rfl | assumption | constructor)); done) | exact y_load_old rfl (hE.t rfl) rfl (by assumption) | (apply y_load_ro rfl (hE.t rfl) rfl; (focus ((repeat constructor); done)); (focus assumption)) | (apply y_load_q rfl (hE.t rfl) rfl (by assumption); (focus ((repeat constructor); done)); (first | ((focus exact f0); (focus omega)) | ((focus exact f1); (focus omega)) | ((focus assumption); (focus omega)))))
  · rfl
  apply l_loud (by kernel_rfl) rfl
  apply ld_call (ct_checkSorted hE hB hg hx hl hn hq hbb) rfl (hE.f (by kernel_rfl))
  · ((repeat constructor); done)
  rintro _ _ ⟨rfl, rfl⟩
  simp only [List.cons_append, List.nil_append]
  refine l_yield (y_assign rfl) rfl ?_
  refine l_nil (a_then (w_seq (w_region ?_)))
  refine l_yield (y_move rfl) rfl ?_
  apply l_yield
  · (first | exact y_ok_ne rfl (hE.t rfl) | exact y_err_ne rfl (hE.t rfl))
  · rfl
  refine l_nil (a_then ?_)
  refine w_cond_f rfl ?_
  refine w_skip (a_then (w_seq (w_region ?_)))
  apply l_yield
  · (first | (apply y_load rfl (hE.t rfl) rfl; (repeat (first | rfl | assumption | constructor)); done) | exact y_load_old rfl (hE.t rfl) rfl (by assumption) | (apply y_load_ro rfl (hE.t rfl) rfl; (focus ((repeat constructor); done)); (focus assumption)) | (apply y_load_q rfl (hE.t rfl) rfl (by assumption); (focus ((repeat constructor); done)); (first | ((focus exact f0); (focus omega)) | ((focus exact f1); (focus omega)) | ((focus assumption); (focus omega)))))
  · rfl
  apply l_yield
  · (first | (apply y_load rfl (hE.t rfl) rfl; (repeat (first | rfl | assumption | constructor)); done) | exact y_load_old rfl (hE.t rfl) rfl (by assumption) | (apply y_load_ro rfl (hE.t rfl) rfl; (focus ((repeat constructor); done)); (focus assumption)) | (apply y_load_q rfl (hE.t rfl) rfl (by assumption); (focus ((repeat constructor); done)); (first | ((focus exact f0); (focus omega)) | ((focus exact f1); (focus omega)) | ((focus assumption); (focus omega)))))
  · rfl
  apply l_yield
  · (first | (apply y_load rfl (hE.t rfl) rfl; (repeat (first | rfl | assumption | constructor)); done) | exact y_load_old rfl (hE.t rfl) rfl (by assumption) | (apply y_load_ro rfl (hE.t rfl) rfl; (focus ((repeat constructor); done)); (focus assumption)) | (apply y_load_q rfl (hE.t rfl) rfl (by assumption); (focus ((repeat constructor); done)); (first | ((focus exact f0); (focus omega)) | ((focus exact f1); (focus omega)) | ((focus assumption); (focus omega)))))
  · rfl
  apply l_loud (by kernel_rfl) rfl
  apply ld_call (ct_osearch hE hB hg hx hl2 hn hq hs) rfl (hE.f (by kernel_rfl))
  · ((repeat constructor); done)
  rintro _ _ ⟨rfl, rfl⟩
  simp only [List.cons_append, List.nil_append]
  generalize srch (ids.map (txt (rls Es))) (txt (rls Es) x) = m at hle hb0 hb1 ⊢
  generalize bgns (ids.map (txt (rls Es))) (txt (rls Es) x) = k at hle hb0 hb1 ⊢
  apply l_loud (by kernel_rfl) rfl
  refine ld_alloc (hE.t rfl) (fun b10 => ?_)
  apply l_loud (by kernel_rfl) rfl
  (first | (apply ld_store rfl rfl (hE.t rfl) rfl; (focus ((repeat constructor); done)); (focus rfl); (focus (exact Nat.le_of_ble_eq_true rfl))) | (apply ld_store_sl rfl rfl (hE.t rfl) rfl; (focus ((repeat constructor); done)); (focus rfl); (focus (first | omega | (simp only [cellsL, List.length_cons, List.length_nil]; omega)))))
  refine l_nil (a_then (w_seq (w_region ?_)))
  apply l_yield
  · (first | (apply y_load rfl (hE.t rfl) rfl; (repeat (first | rfl | assumption | constructor)); done) | exact y_load_old rfl (hE.t rfl) rfl (by assumption) | (apply y_load_ro rfl (hE.t rfl) rfl; (focus ((repeat constructor); done)); (focus assumption)) | (apply y_load_q rfl (hE.t rfl) rfl (by assumption); (focus ((repeat constructor); done)); (first | ((focus exact f0); (focus omega)) | ((focus exact f1); (focus omega)) | ((focus assumption); (focus omega)))))
  · rfl
  refine l_yield (y_len_slice rfl (hE.t rfl)) rfl ?_
  apply l_yield
  · (first | (apply y_load rfl (hE.t rfl) rfl; (repeat (first | rfl | assumption | constructor)); done) | exact y_load_old rfl (hE.t rfl) rfl (by assumption) | (apply y_load_ro rfl (hE.t rfl) rfl; (focus ((repeat constructor); done)); (focus assumption)) | (apply y_load_q rfl (hE.t rfl) rfl (by assumption); (focus ((repeat constructor); done)); (first | ((focus exact f0); (focus omega)) | ((focus exact f1); (focus omega)) | ((focus assumption); (focus omega)))))
  · rfl
  refine l_yield (y_sub rfl rfl (by omega) (by omega)) rfl ?_
  refine l_yield (y_makeFunc rfl) rfl ?_
  have hcl : ∀ i, i < ids.length - m → Ct E 97 (.int .i64 (i : Nat) :: [.pointer (some ⟨b3, 0, none⟩), .pointer (some ⟨b4, 0, none⟩), .pointer (some ⟨b10, 0, none⟩), .pointer (some ⟨b5, 0, none⟩)]) [stars [cells b3 [.pointer (some ⟨pp, 0, none⟩)] 22, cells b4 [.slice a ids.length c] 48, cells b10 [.int .i64 (m : Nat)] 3, cells b5 [.int .i64 (x : Nat)] 26, cells pp [.pointer (some ⟨s, 0, none⟩), .pointer (some ⟨tb, 0, none⟩)] 108, tabP tb s (rls Es), storeP s most Es, q]] (fun v Q => v = .bool (!decide (Bgn (txt (rls Es) (ids.getD (m + i) 0)) (txt (rls Es) x))) ∧ Q = [stars [cells b3 [.pointer (some ⟨pp, 0, none⟩)] 22, cells b4 [.slice a ids.length c] 48, cells b10 [.int .i64 (m : Nat)] 3, cells b5 [.int .i64 (x : Nat)] 26, cells pp [.pointer (some ⟨s, 0, none⟩), .pointer (some ⟨tb, 0, none⟩)] 108, tabP tb s (rls Es), storeP s most Es, q]]) := by
    intro i hi
    obtain ⟨g, o, rfl, hqq⟩ := rdb_id hq (by intro e; rw [e] at hi; simp at hi)
    obtain ⟨u, hu⟩ : ∃ u, ids[m + i]? = some u := ⟨_, List.getElem?_eq_getElem (by omega)⟩
    rw [getD_of hu]
    have hum := List.mem_of_getElem? hu
    exact ct_pack (ct_range1 hE hB hu (hg u hum) hx (hl2 u hum) hn hqq)
  have h0 : ∀ i, i < k → (!decide (Bgn (txt (rls Es) (ids.getD (m + i) 0)) (txt (rls Es) x))) = false := by
    intro i hi
    obtain ⟨u, hu⟩ : ∃ u, ids[m + i]? = some u := ⟨_, List.getElem?_eq_getElem (by omega)⟩
    rw [getD_of hu, decide_eq_true (hb0 i u hi hu)]
    rfl
  have h1 : ∀ i, k ≤ i → i < ids.length - m → (!decide (Bgn (txt (rls Es) (ids.getD (m + i) 0)) (txt (rls Es) x))) = true := by
    intro i hi hil
    obtain ⟨u, hu⟩ : ∃ u, ids[m + i]? = some u := ⟨_, List.getElem?_eq_getElem (by omega)⟩
    rw [getD_of hu, decide_eq_false (hb1 i u hi hu)]
    rfl
  have hk : k ≤ ids.length - m := by omega
  refine l_eq 26 (.int .i64 ((ids.length - m : Nat) : Int)) rfl (int_eq (by omega)) ?_
  have hn2 : ids.length - m ≤ 1099511627776 := by omega
  apply l_loud (by kernel_rfl) rfl
  apply ld_call (ct_spread (ct_sortSearch hE hgo hn2 hcl hk h0 h1)) rfl (hE.f (by kernel_rfl))
  · ((repeat constructor); done)
  rintro _ _ ⟨rfl, rfl⟩
  simp only [List.cons_append, List.nil_append]
  refine l_yield (y_assign rfl) rfl ?_
  refine l_nil (a_then ?_)
  refine w_seq ?_
  refine w_held ([cells b10 [.int .i64 (m : Nat)] 3]) ?_ ?_
  · (apply ent; (repeat constructor); done)
  apply d_take 0 rfl
  · (first | (apply y_load rfl (hE.t rfl) rfl; (repeat (first | rfl | assumption | constructor)); done) | exact y_load_old rfl (hE.t rfl) rfl (by assumption) | (apply y_load_ro rfl (hE.t rfl) rfl; (focus ((repeat constructor); done)); (focus assumption)) | (apply y_load_q rfl (hE.t rfl) rfl (by assumption); (focus ((repeat constructor); done)); (first | ((focus exact f0); (focus omega)) | ((focus exact f1); (focus omega)) | ((focus assumption); (focus omega)))))
  · with_reducible (repeat (first | exact calm_body | apply calm_then | apply calm_block))
  · kernel_rfl
  · rfl
  apply d_take 1 rfl
  · (first | (apply y_load rfl (hE.t rfl) rfl; (repeat (first | rfl | assumption | constructor)); done) | exact y_load_old rfl (hE.t rfl) rfl (by assumption) | (apply y_load_ro rfl (hE.t rfl) rfl; (focus ((repeat constructor); done)); (focus assumption)) | (apply y_load_q rfl (hE.t rfl) rfl (by assumption); (focus ((repeat constructor); done)); (first | ((focus exact f0); (focus omega)) | ((focus exact f1); (focus omega)) | ((focus assumption); (focus omega)))))
  · with_reducible (repeat (first | exact calm_body | apply calm_then | apply calm_block))
  · kernel_rfl
  · rfl
  apply d_take 2 rfl
  · exact y_move rfl
  · with_reducible (repeat (first | exact calm_body | apply calm_then | apply calm_block))
  · kernel_rfl
  · rfl
  apply d_take 3 rfl
  · exact y_add rfl rfl (by omega) (by omega)
  · with_reducible (repeat (first | exact calm_body | apply calm_then | apply calm_block))
  · kernel_rfl
  · rfl
  apply d_take 4 rfl
  · exact y_assign rfl
  · with_reducible (repeat (first | exact calm_body | apply calm_then | apply calm_block))
  · kernel_rfl
  · rfl
  apply d_take 5 rfl
  · exact y_assign rfl
  · with_reducible (repeat (first | exact calm_body | apply calm_then | apply calm_block))
  · kernel_rfl
  · rfl
  apply d_take 6 rfl
  · exact y_assign rfl
  · with_reducible (repeat (first | exact calm_body | apply calm_then | apply calm_block))
  · kernel_rfl
  · rfl
  refine d_nil (by kernel_rfl) ?_
  refine a_then (w_ret ?_)
  apply a_ret
  · rfl
  · (apply Rs.tmp rfl; apply Rs.tmp rfl; apply Rs.tmp rfl; exact Rs.nil)
  · refine ⟨?_, rfl⟩
    rw [show ((m + k : Nat) : Int) = (m : Int) + (k : Int) by omega]
    rfl
  · (apply ent; (repeat constructor); done)
theorem ct_Range27_no (hE : Seat E) (hB : Base E.w0) {ids : List Nat} {x : Nat} (hg : ∀ x ∈ ids, good (rls Es) x) (hx : good (rls Es) x) (hl : ∀ x ∈ ids, len (rls Es) x ≤ 4000000) (hn : ids.length ≤ 1099511627776) {a : Option Addr} {c : Nat} {q : HP} (hq : Rdb E.w0 a (idC ids) q) (hs : ¬ Srt (ids.map (txt (rls Es)))) :
    Ct E 60 [.pointer (some ⟨pp, 0, none⟩), .slice a ids.length c, .int .i64 (x : Nat)] [cells pp [.pointer (some ⟨s, 0, none⟩), .pointer (some ⟨tb, 0, none⟩)] 108, tabP tb s (rls Es), storeP s most Es, q] (fun v Q => v = .tuple #[.int .i64 0, .int .i64 0, .iface 38 (.int .i64 4)] ∧ Q = [cells pp [.pointer (some ⟨s, 0, none⟩), .pointer (some ⟨tb, 0, none⟩)] 108, tabP tb s (rls Es), storeP s most Es, q]) := by
  have hbb : false = true ↔ Srt (ids.map (txt (rls Es))) := ⟨fun h => (by cases h), fun h => absurd h hs⟩
  refine fn_enter (hE.fn Tryd.func60) rfl rfl rfl (fun R => ?_)
  simp only [argsL, List.cons_append, List.nil_append]
  refine w_seq (w_region ?_)
  apply l_loud (by kernel_rfl) rfl
  refine ld_box rfl (fun b3 => ?_)
  apply l_loud (by kernel_rfl) rfl
  refine ld_box rfl (fun b4 => ?_)
  apply l_loud (by kernel_rfl) rfl
  refine ld_box rfl (fun b5 => ?_)
  refine l_yield (y_assign rfl) rfl ?_
  refine l_yield (y_assign rfl) rfl ?_
  refine l_yield (y_assign rfl) rfl ?_
  refine l_nil (a_then (w_seq (w_seq (w_region ?_))))
  apply l_yield
  · (first | (apply y_load rfl (hE.t rfl) rfl; (repeat (first | rfl | assumption | constructor)); done) | exact y_load_old rfl (hE.t rfl) rfl (by assumption) | (apply y_load_ro rfl (hE.t rfl) rfl; (focus ((repeat constructor); done)); (focus assumption)) | (apply y_load_q rfl (hE.t rfl) rfl (by assumption); (focus ((repeat constructor); done)); (first | ((focus exact f0); (focus omega)) | ((focus exact f1); (focus omega)) | ((focus assumption); (focus omega)))))
  · rfl
  apply l_yield
  · (first | (apply y_load rfl (hE.t rfl) rfl; (repeat (first | rfl | assumption | constructor)); done) | exact y_load_old rfl (hE.t rfl) rfl (by assumption) | (apply y_load_ro rfl (hE.t rfl) rfl; (focus ((repeat constructor); done)); (focus assumption)) | (apply y_load_q rfl (hE.t rfl) rfl (by assumption); (focus ((repeat constructor); done)); (first | ((focus exact f0); (focus omega)) | ((focus exact f1); (focus omega)) | ((focus assumption); (focus omega)))))
  · rfl
  apply l_yield
  · (first | (apply y_load rfl (hE.t rfl) rfl; (repeat (first | rfl | assumption | constructor)); done) | exact y_load_old rfl (hE.t rfl) rfl (by assumption) | (apply y_load_ro rfl (hE.t rfl) rfl; (focus ((repeat constructor); done)); (focus assumption)) | (apply y_load_q rfl (hE.t rfl) rfl (by assumption); (focus ((repeat constructor); done)); (first | ((focus exact f0); (focus omega)) | ((focus exact f1); (focus omega)) | ((focus assumption); (focus omega)))))
  · rfl
  apply l_loud (by kernel_rfl) rfl
  apply ld_call (ct_checkSorted hE hB hg hx hl hn hq hbb) rfl (hE.f (by kernel_rfl))
  · ((repeat constructor); done)
  rintro _ _ ⟨rfl, rfl⟩
  simp only [List.cons_append, List.nil_append]
  refine l_yield (y_assign rfl) rfl ?_
  refine l_nil (a_then (w_seq (w_region ?_)))
  refine l_yield (y_move rfl) rfl ?_
  apply l_yield
  · (first | exact y_ok_ne rfl (hE.t rfl) | exact y_err_ne rfl (hE.t rfl))
  · rfl
  refine l_nil (a_then ?_)
  refine w_cond_t rfl ?_
  refine w_seq (w_region ?_)
  refine l_yield (y_move rfl) rfl ?_
  refine l_yield (y_assign rfl) rfl ?_
  refine l_yield (y_assign rfl) rfl ?_
  refine l_yield (y_assign rfl) rfl ?_
  refine l_nil (a_then (w_ret (a_then_ret ?_)))
  apply a_ret
  · rfl
  · (apply Rs.tmp rfl; apply Rs.tmp rfl; apply Rs.tmp rfl; exact Rs.nil)
  · exact ⟨rfl, rfl⟩
  · (apply ent; (repeat constructor); done)
theorem ct_refRange (hE : Seat E) {ts : List Tx} {x : Tx} {A : Option Addr} {C : Nat} {q : HP} (hq : Rdb E.w0 A (ts.map txV) q) (hok : ∀ t ∈ ts, OkT E.w0 t) (hx : OkT E.w0 x) (hn : ts.length ≤ 140737488355328) :
    Ct E 61 [.slice A ts.length C, .slice x.a x.bs.length x.c] [q] (fun v Q => v = .tuple #[.int .i64 (srch (bss ts) x.bs : Nat), .int .i64 ((srch (bss ts) x.bs + bgns (bss ts) x.bs : Nat) : Int)] ∧ Q = [q]) := by
  have hle := bgns_le (bss ts) x.bs
  have hbl : (bss ts).length = ts.length := by simp [bss]
  refine fn_enter (hE.fn Tryd.func61) rfl rfl rfl (fun R => ?_)
  simp only [argsL, List.cons_append, List.nil_append]
  refine w_seq (w_region ?_)
  refine l_yield (y_assign rfl) rfl ?_
  refine l_yield (y_assign rfl) rfl ?_
  refine l_nil (a_then (w_seq (w_region ?_)))
  refine l_yield (y_move rfl) rfl ?_
  refine l_yield (y_move rfl) rfl ?_
  apply l_loud (by kernel_rfl) rfl
  apply ld_call (ct_refSearch hE hq hok hx hn) rfl (hE.f (by kernel_rfl))
  · ((repeat constructor); done)
  rintro _ _ ⟨rfl, rfl⟩
  simp only [List.cons_append, List.nil_append]
  refine l_yield (y_assign rfl) rfl ?_
  refine l_nil (a_then (w_seq (w_region ?_)))
  refine l_yield (y_move rfl) rfl ?_
  refine l_yield (y_assign rfl) rfl ?_
  refine l_nil (a_then (w_seq (w_block ?_)))
  skip
  refine w_loop (fun k : Nat => [(0, .slice A ts.length C), (1, .slice x.a x.bs.length x.c), (6, .int .i64 (srch (bss ts) x.bs : Nat)), (7, .int .i64 ((srch (bss ts) x.bs + k : Nat) : Int))]) (fun k => [q, R]) (fun k => ts.length - k) (fun k => k ≤ bgns (bss ts) x.bs) 0 ?_ ?_ ?_ ?_
  · exact Nat.zero_le _
  · exact ⟨rfl, rfl, rfl, rfl, trivial⟩
  · (apply ent; (repeat constructor); done)
  intro k hk
  skip
  refine w_seq (w_seq (w_region ?_))
  refine l_yield (y_move rfl) rfl ?_
  refine l_yield (y_move rfl) rfl ?_
  refine l_yield (y_len_slice rfl (hE.t rfl)) rfl ?_
  refine l_yield (y_lt rfl rfl) rfl ?_
  refine l_yield (y_move rfl) rfl ?_
  refine l_split 16 rfl (fun h1 => ?_) (fun h1 => ?_)
  · skip
    have hkl : srch (bss ts) x.bs + k < ts.length := by omega
    obtain ⟨g, o, rfl, hqq⟩ := rdb_tx hq (by intro e; rw [e] at hkl; simp at hkl)
    obtain ⟨u, hu⟩ : ∃ u, ts[srch (bss ts) x.bs + k]? = some u := ⟨_, List.getElem?_eq_getElem hkl⟩
    have hou := hok u (List.mem_of_getElem? hu)
    have f0 := txV_get hu
    have e0 := bss_get hu
    refine l_on rfl rfl ?_
    refine l_yield (y_move rfl) rfl ?_
    refine l_on rfl rfl ?_
    refine l_yield (y_move rfl) rfl ?_
    refine l_on rfl rfl ?_
    apply l_yield
    · (first | exact y_indexAddr1 rfl rfl (hE.t rfl) (by omega) (by omega) | exact y_indexAddr rfl rfl (hE.t rfl) (by omega) (by omega))
    · rfl
    refine l_on rfl rfl ?_
    apply l_yield
    · (first | (apply y_load rfl (hE.t rfl) rfl; (repeat (first | rfl | assumption | constructor)); done) | exact y_load_old rfl (hE.t rfl) rfl (by assumption) | (apply y_load_ro rfl (hE.t rfl) rfl; (focus ((repeat constructor); done)); (focus assumption)) | (apply y_load_q rfl (hE.t rfl) rfl (by assumption); (focus ((repeat constructor); done)); (first | ((focus exact f0); (focus omega)) | ((focus exact f1); (focus omega)) | ((focus assumption); (focus omega)))))
    · rfl
    refine l_on rfl rfl ?_
    refine l_yield (y_move rfl) rfl ?_
    refine l_on rfl rfl ?_
    apply l_loud (by kernel_rfl) rfl
    apply ld_call (ct_refHasPrefix hE hou hx) rfl (hE.f (by kernel_rfl))
    · ((repeat constructor); done)
    rintro _ _ ⟨rfl, rfl⟩
    simp only [List.cons_append, List.nil_append]
    apply l_yield
    · (first | exact y_pick_t rfl rfl | exact y_pick_f rfl rfl)
    · rfl
    refine l_nil (a_then ?_)
    refine w_cond_d rfl (fun h2 => ?_) (fun h2 => ?_)
    · skip
      have hk2 : k + 1 ≤ bgns (bss ts) x.bs := by
        rcases Nat.lt_or_ge k (bgns (bss ts) x.bs) with h | h
        · exact h
        · obtain rfl : k = bgns (bss ts) x.bs := by omega
          have : ¬ Bgn u.bs x.bs := by simpa using cnt_at (p := fun A => decide (Bgn A x.bs)) (ts := (bss ts).drop (srch (bss ts) x.bs)) (A := u.bs) (by rw [List.getElem?_drop]; exact e0)
          exact absurd h2 this
      refine w_skip (a_then (w_block (w_region ?_)))
      refine l_yield (y_move rfl) rfl ?_
      refine l_yield (y_add rfl rfl (by omega) (by omega)) rfl ?_
      refine l_yield (y_assign rfl) rfl ?_
      refine l_nil (a_block ?_)
      refine wa_eq 7 (.int .i64 ((srch (bss ts) x.bs + (k + 1) : Nat) : Int)) rfl (int_eq (by omega)) ?_
      refine a_round (k + 1) hk2 (by omega) ⟨rfl, rfl, rfl, rfl, trivial⟩ (by (apply ent; (repeat constructor); done))
    · skip
      have hk3 : k = bgns (bss ts) x.bs := by
        rcases Nat.lt_or_ge k (bgns (bss ts) x.bs) with h | h
        · exact absurd (bgns_lt h e0) h2
        · omega
      refine w_exit (a_then_exit (a_then_exit (a_block_exit (a_then (w_seq (w_region ?_))))))
      refine l_yield (y_move rfl) rfl ?_
      refine l_yield (y_move rfl) rfl ?_
      refine l_yield (y_assign rfl) rfl ?_
      refine l_yield (y_assign rfl) rfl ?_
      refine l_nil (a_then (w_ret ?_))
      apply a_ret
      · rfl
      · (apply Rs.tmp rfl; apply Rs.tmp rfl; exact Rs.nil)
      · exact ⟨by rw [← hk3]; rfl, rfl⟩
      · (apply ent; (repeat constructor); done)
  · skip
    have hk3 : k = bgns (bss ts) x.bs := by omega
    refine l_off rfl rfl rfl rfl (l_off rfl rfl rfl rfl (l_off rfl rfl rfl rfl (l_off rfl rfl rfl rfl (l_off rfl rfl rfl rfl (l_off rfl rfl rfl rfl ?_)))))
    apply l_yield
    · (first | exact y_pick_t rfl rfl | exact y_pick_f rfl rfl)
    · rfl
    refine l_nil (a_then ?_)
    refine w_cond_f rfl ?_
    refine w_exit (a_then_exit (a_then_exit (a_block_exit (a_then (w_seq (w_region ?_))))))
    refine l_yield (y_move rfl) rfl ?_
    refine l_yield (y_move rfl) rfl ?_
    refine l_yield (y_assign rfl) rfl ?_
    refine l_yield (y_assign rfl) rfl ?_
    refine l_nil (a_then (w_ret ?_))
    apply a_ret
    · rfl
    · (apply Rs.tmp rfl; apply Rs.tmp rfl; exact Rs.nil)
    · exact ⟨by rw [← hk3]; rfl, rfl⟩
    · (apply ent; (repeat constructor); done)
end Go.Proofs.YtlmdkaniblhdmaaDoor
/- evergreenlaw27: OrderRanges. -/
namespace Go.Proofs.YtlmdkaniblhdmaaDoor
open Go Go.RowKit Sl Eg
set_option maxRecDepth 10000
variable {E : Env} {Es : List Ent} {pp tb s most : Nat}
theorem ct_OrderRanges (hE : Seat E) (hB : Base E.w0) {ts : List Tx} {x : Tx} {A : Option Addr} {C : Nat} (hT : Rdb E.w0 A (ts.map txV) old) (hok0 : ∀ t ∈ ts, OkT E.w0 t) (hx : OkT E.w0 x) (hn : (ts.length + 1) * 24 ≤ 140737488355328) :
    Ct E 13 [.slice A ts.length C, .slice x.a x.bs.length x.c] [] (fun v Q => v = .bool true ∧ Q = []) := by
  refine fn_enter (hE.fn Tryd.func13) rfl rfl rfl (fun R => ?_)
  simp only [argsL, List.cons_append, List.nil_append]
  refine w_seq (w_region ?_)
  refine l_yield (y_assign rfl) rfl ?_
  refine l_nil (a_then (w_seq (w_seq (w_region ?_))))
  apply l_loud (by kernel_rfl) rfl
  refine ld_buildSlice0 (hE.t rfl) (fun b14 => ?_)
  have hok : ∀ t ∈ ts ++ [x], OkT E.w0 t := by intro t ht; simp at ht; rcases ht with h | rfl; exact hok0 t h; exact hx
  have hln : (ts ++ [x]).length = ts.length + 1 := by simp
  have hl1 : (ts ++ [x]).length ≤ 140737488355328 := by omega
  have hb1 : (0 + (ts.map txV).length) * 24 ≤ 140737488355328 := by rw [List.length_map]; omega
  have hb2 : 0 + (ts.map txV).length ≤ maxLen := by rw [List.length_map]; unfold maxLen; omega
  refine l_heap ent_old ?_
  refine l_yield (y_move rfl) rfl ?_
  apply l_loud (by kernel_rfl) rfl
  refine ld_append_any (us := ts.map txV) (q := old) (hE.t rfl) (hE.t rfl) rfl rfl rfl (by simp) hT (by ((repeat constructor); done)) (by ((repeat constructor); done)) (by simp [txV_one]) hb1 hb2 (fun p1 c1 m1 x1 hm1 hx1 => ?_)
  obtain rfl : m1 = ts.length := by rw [hm1]; simp
  obtain rfl : x1 = ts.map txV := by rw [hx1]; rfl
  refine l_yield (y_move rfl) rfl ?_
  apply l_loud (by kernel_rfl) rfl
  refine ld_buildSlice (hE.t rfl) (hE.t rfl) rfl rfl rfl (fun b18 => ?_)
  apply l_loud (by kernel_rfl) rfl
  apply ld_append (hE.t rfl) (hE.t rfl) rfl rfl rfl
  · ((repeat constructor); done)
  · ((repeat constructor); done)
  · rfl
  · rfl
  · omega
  · omega
  · (unfold maxLen; omega)
  intro g19 c19 n19 x19 hn19 hx19
  obtain rfl : n19 = (ts ++ [x]).length := by rw [hn19]; simp
  obtain rfl : x19 = (ts ++ [x]).map txV := by rw [hx19, List.map_append]; rfl
  have hq19 : Rdb E.w0 (some ⟨g19, 0, none⟩) ((ts ++ [x]).map txV) (sl (some ⟨g19, 0, none⟩) c19 31 1 (ts ++ [x]).length ((ts ++ [x]).map txV)) := fun _ => ⟨g19, 0, rfl, rd_sl (fun _ _ h => h)⟩
  apply l_loud (by kernel_rfl) rfl
  apply ld_call (ct_long hE hq19 hok hl1) rfl (hE.f (by kernel_rfl))
  · ((repeat constructor); done)
  rintro _ _ ⟨rfl, rfl⟩
  simp only [List.cons_append, List.nil_append]
  refine l_nil (a_then ?_)
  refine w_cond_d rfl (fun h1 => ?_) (fun h1 => ?_)
  · skip
    refine w_seq (w_region ?_)
    refine l_yield (y_assign rfl) rfl ?_
    refine l_nil (a_then (w_ret (a_then_ret ?_)))
    apply a_ret
    · rfl
    · (apply Rs.tmp rfl; exact Rs.nil)
    · exact ⟨rfl, rfl⟩
    · (apply ent; (repeat constructor); done)
  skip
  refine w_skip (a_then (w_seq (w_region ?_)))
  apply l_loud (by kernel_rfl) rfl
  refine ld_buildSlice0 (hE.t rfl) (fun b22 => ?_)
  refine l_yield (y_move rfl) rfl ?_
  refine l_heap ent_old ?_
  skip
  apply l_loud (by kernel_rfl) rfl
  refine ld_append_any (us := ts.map txV) (q := old) (hE.t rfl) (hE.t rfl) rfl rfl rfl (by simp) hT (by ((repeat constructor); done)) (by ((repeat constructor); done)) (by simp [txV_one]) hb1 hb2 (fun p1 c1 m1 x1 hm1 hx1 => ?_)
  obtain rfl : m1 = ts.length := by rw [hm1]; simp
  obtain rfl : x1 = ts.map txV := by rw [hx1]; rfl
  refine l_yield (y_move rfl) rfl ?_
  apply l_loud (by kernel_rfl) rfl
  refine ld_buildSlice (hE.t rfl) (hE.t rfl) rfl rfl rfl (fun b26 => ?_)
  apply l_loud (by kernel_rfl) rfl
  apply ld_append (hE.t rfl) (hE.t rfl) rfl rfl rfl
  · ((repeat constructor); done)
  · ((repeat constructor); done)
  · rfl
  · rfl
  · omega
  · omega
  · (unfold maxLen; omega)
  intro g27 c27 n27 x27 hn27 hx27
  obtain rfl : n27 = (ts ++ [x]).length := by rw [hn27]; simp
  obtain rfl : x27 = (ts ++ [x]).map txV := by rw [hx27, List.map_append]; rfl
  have hq27 : Rdb E.w0 (some ⟨g27, 0, none⟩) ((ts ++ [x]).map txV) (sl (some ⟨g27, 0, none⟩) c27 31 1 (ts ++ [x]).length ((ts ++ [x]).map txV)) := fun _ => ⟨g27, 0, rfl, rd_sl (fun _ _ h => h)⟩
  apply l_loud (by kernel_rfl) rfl
  apply ld_call (ct_begun hE hB hq27 hok (by omega)) rfl (hE.f (by kernel_rfl))
  · ((repeat constructor); done)
  rintro _ _ ⟨pp, s, tb, M, ids, p, c, rfl, hM, hsg, rfl⟩
  have hil := hsg.len
  have hlt := lens_append ts x
  have htx := hsg.texts
  obtain ⟨y, hy⟩ : ∃ y, ids[ts.length]? = some y := ⟨_, List.getElem?_eq_getElem (by omega)⟩
  obtain ⟨ty, gy, sy⟩ := hsg.at_ ts.length x y (by simp) hy
  have e1 : (ids.take ts.length).map (txt (rls M)) = bss ts := by
    rw [List.map_take, htx]
    simp [bss]
  have hlt2 : (ids.take ts.length).length = ts.length := by rw [List.length_take]; omega
  have hat : ∀ (k : Nat) (t : Tx) (u : Nat), ts[k]? = some t → ids[k]? = some u → txt (rls M) u = t.bs ∧ good (rls M) u ∧ Sg (rls M) t.bs u := fun k t u h1 h2 => hsg.at_ k t u (by rw [List.getElem?_append_left (List.getElem?_eq_some_iff.1 h1).1]; exact h1) h2
  have hall : ∀ u ∈ ids.take ts.length, good (rls M) u ∧ len (rls M) u ≤ 4000000 := by
    intro u hu
    obtain ⟨k, hk⟩ := List.getElem?_of_mem hu
    have hkl := (List.getElem?_eq_some_iff.1 hk).1
    rw [hlt2] at hkl
    rw [List.getElem?_take, if_pos hkl] at hk
    have ht : ts[k]? = some ts[k] := List.getElem?_eq_getElem hkl
    obtain ⟨r1, r2, _⟩ := hat k _ u ht hk
    refine ⟨r2, ?_⟩
    unfold len
    rw [r1]
    have := len_le_lens (List.mem_of_getElem? ht)
    omega
  have ly : len (rls M) y ≤ 4000000 := by unfold len; rw [ty]; omega
  simp only [List.cons_append, List.nil_append]
  refine l_say (p := sl p c 26 1 ids.length (idC ids)) (by ((repeat constructor); done)) (fun _ h => And.intro (sl_form h (by omega)) (sl_cap h)) ?_
  rintro ⟨⟨g, rfl⟩, hcap, -, -⟩
  refine l_say (p := storeP s 1048576 M) (by ((repeat constructor); done)) (fun _ h => storeP_says h) (fun hsay => ?_)
  have f0 := idC_get hy ts.length rfl
  have hqi : Rdb E.w0 (some ⟨g, 0, none⟩) (idC (ids.take ts.length)) (sl (some ⟨g, 0, none⟩) c 26 1 ids.length (idC ids)) := fun _ => ⟨g, 0, rfl, rd_sl (fun _ _ h => idC_take h)⟩
  refine l_yield (y_move rfl) rfl ?_
  refine l_yield (y_extract rfl rfl) rfl ?_
  refine l_yield (y_extract rfl rfl) rfl ?_
  refine l_yield (y_extract rfl rfl) rfl ?_
  refine l_yield (y_assign rfl) rfl ?_
  refine l_yield (y_assign rfl) rfl ?_
  refine l_yield (y_assign rfl) rfl ?_
  refine l_nil (a_then (w_seq (w_seq (w_region ?_))))
  refine l_yield (y_move rfl) rfl ?_
  refine l_yield (y_not rfl) rfl ?_
  refine l_nil (a_then ?_)
  refine w_cond_f rfl ?_
  skip
  refine w_skip (a_then (w_seq (w_region ?_)))
  refine l_yield (y_move rfl) rfl ?_
  refine l_yield (y_len_slice rfl (hE.t rfl)) rfl ?_
  refine l_yield (y_assign rfl) rfl ?_
  refine l_nil (a_then ?_)
  refine w_seq ?_
  refine w_held ([sl (some ⟨g, 0, none⟩) c 26 1 ids.length (idC ids)]) ?_ ?_
  · (apply ent; (repeat constructor); done)
  apply d_take 0 rfl
  · exact y_move rfl
  · with_reducible (repeat (first | exact calm_body | apply calm_then | apply calm_block))
  · kernel_rfl
  · rfl
  apply d_take 1 rfl
  · exact y_move rfl
  · with_reducible (repeat (first | exact calm_body | apply calm_then | apply calm_block))
  · kernel_rfl
  · rfl
  apply d_take 2 rfl
  · exact y_move rfl
  · with_reducible (repeat (first | exact calm_body | apply calm_then | apply calm_block))
  · kernel_rfl
  · rfl
  apply d_take 3 rfl
  · exact y_slice_hi _ rfl rfl (hE.t rfl) rfl (by omega)
  · with_reducible (repeat (first | exact calm_body | apply calm_then | apply calm_block))
  · kernel_rfl
  · rfl
  apply d_take 4 rfl
  · exact y_move rfl
  · with_reducible (repeat (first | exact calm_body | apply calm_then | apply calm_block))
  · kernel_rfl
  · rfl
  apply d_take 5 rfl
  · exact y_move rfl
  · with_reducible (repeat (first | exact calm_body | apply calm_then | apply calm_block))
  · kernel_rfl
  · rfl
  apply d_take 6 rfl
  · (first | exact y_indexAddr1 rfl rfl (hE.t rfl) (by omega) (by omega) | exact y_indexAddr rfl rfl (hE.t rfl) (by omega) (by omega))
  · with_reducible (repeat (first | exact calm_body | apply calm_then | apply calm_block))
  · kernel_rfl
  · rfl
  apply d_take 7 rfl
  · (first | (apply y_load rfl (hE.t rfl) rfl; (repeat (first | rfl | assumption | constructor)); done) | exact y_load_old rfl (hE.t rfl) rfl (by assumption) | (apply y_load_ro rfl (hE.t rfl) rfl; (focus ((repeat constructor); done)); (focus assumption)) | (apply y_load_q rfl (hE.t rfl) rfl (by assumption); (focus ((repeat constructor); done)); (first | ((focus exact f0); (focus omega)) | ((focus exact f1); (focus omega)) | ((focus assumption); (focus omega)))))
  · with_reducible (repeat (first | exact calm_body | apply calm_then | apply calm_block))
  · kernel_rfl
  · rfl
  apply d_loud 8 rfl (by kernel_rfl) rfl
  skip
  by_cases hs : Srt (bss ts)
  · have hcall := ct_Range27 (Es := M) (pp := pp) (tb := tb) (s := s) (most := 1048576) (x := y) (c := c) hE hB (fun u hu => (hall u hu).1) gy (fun u hu => (hall u hu).2) ly (by omega) hqi (by rw [e1]; exact hs)
    rw [hlt2, e1, ty] at hcall
    apply ld_call (hcall) rfl (hE.f (by kernel_rfl))
    · ((repeat constructor); done)
    rintro _ _ ⟨rfl, rfl⟩
    simp only [List.cons_append, List.nil_append]
    refine ⟨by (apply ent; (repeat constructor); done), ?_⟩
    apply d_take 9 rfl
    · exact y_move rfl
    · with_reducible (repeat (first | exact calm_body | apply calm_then | apply calm_block))
    · kernel_rfl
    · rfl
    apply d_take 10 rfl
    · exact y_extract rfl rfl
    · with_reducible (repeat (first | exact calm_body | apply calm_then | apply calm_block))
    · kernel_rfl
    · rfl
    apply d_take 11 rfl
    · exact y_extract rfl rfl
    · with_reducible (repeat (first | exact calm_body | apply calm_then | apply calm_block))
    · kernel_rfl
    · rfl
    apply d_take 12 rfl
    · exact y_extract rfl rfl
    · with_reducible (repeat (first | exact calm_body | apply calm_then | apply calm_block))
    · kernel_rfl
    · rfl
    apply d_take 13 rfl
    · exact y_assign rfl
    · with_reducible (repeat (first | exact calm_body | apply calm_then | apply calm_block))
    · kernel_rfl
    · rfl
    apply d_take 14 rfl
    · exact y_assign rfl
    · with_reducible (repeat (first | exact calm_body | apply calm_then | apply calm_block))
    · kernel_rfl
    · rfl
    apply d_take 15 rfl
    · exact y_assign rfl
    · with_reducible (repeat (first | exact calm_body | apply calm_then | apply calm_block))
    · kernel_rfl
    · rfl
    refine d_nil (by kernel_rfl) ?_
    refine a_then (w_seq (w_seq (w_region ?_)))
    refine l_yield (y_move rfl) rfl ?_
    refine l_heap ent_old ?_
    apply l_loud (by kernel_rfl) rfl
    apply ld_call (ct_refSorted (ts := ts) hE hT hok0 (by omega) (b := true) ⟨fun _ => hs, fun _ => rfl⟩) rfl (hE.f (by kernel_rfl))
    · ((repeat constructor); done)
    rintro _ _ ⟨rfl, rfl⟩
    simp only [List.cons_append, List.nil_append]
    refine l_yield (y_not rfl) rfl ?_
    refine l_nil (a_then ?_)
    refine w_cond_f rfl ?_
    refine w_skip (a_then (w_seq (w_region ?_)))
    refine l_yield (y_move rfl) rfl ?_
    refine l_yield (y_move rfl) rfl ?_
    apply l_loud (by kernel_rfl) rfl
    apply ld_call (ct_refRange (ts := ts) hE hT hok0 hx (by omega)) rfl (hE.f (by kernel_rfl))
    · ((repeat constructor); done)
    rintro _ _ ⟨rfl, rfl⟩
    simp only [List.cons_append, List.nil_append]
    refine l_yield (y_move rfl) rfl ?_
    refine l_yield (y_extract rfl rfl) rfl ?_
    refine l_yield (y_extract rfl rfl) rfl ?_
    refine l_yield (y_assign rfl) rfl ?_
    refine l_yield (y_assign rfl) rfl ?_
    refine l_nil (a_then (w_seq (w_region ?_)))
    refine l_yield (y_move rfl) rfl ?_
    apply l_yield
    · (first | exact y_ok_eq rfl (hE.t rfl) | exact y_err_eq rfl (hE.t rfl))
    · rfl
    refine l_yield (y_move rfl) rfl ?_
    skip
    refine l_on rfl rfl ?_
    refine l_yield (y_move rfl) rfl ?_
    refine l_on rfl rfl ?_
    refine l_yield (y_move rfl) rfl ?_
    refine l_on rfl rfl ?_
    refine l_yield (y_eq rfl rfl) rfl ?_
    apply l_yield
    · (first | exact y_pick_t rfl rfl | exact y_pick_f rfl rfl)
    · rfl
    refine l_yield (y_move rfl) rfl ?_
    refine l_eq 75 (.bool true) rfl (by simp) ?_
    skip
    refine l_on rfl rfl ?_
    refine l_yield (y_move rfl) rfl ?_
    refine l_on rfl rfl ?_
    refine l_yield (y_move rfl) rfl ?_
    refine l_on rfl rfl ?_
    refine l_yield (y_eq rfl rfl) rfl ?_
    apply l_yield
    · (first | exact y_pick_t rfl rfl | exact y_pick_f rfl rfl)
    · rfl
    refine l_yield (y_assign rfl) rfl ?_
    refine l_nil (a_then (w_ret ?_))
    apply a_ret
    · rfl
    · (apply Rs.tmp rfl; exact Rs.nil)
    · exact ⟨by simp [one], rfl⟩
    · (apply ent; (repeat constructor); done)
  · skip
    have hcall := ct_Range27_no (Es := M) (pp := pp) (tb := tb) (s := s) (most := 1048576) (x := y) (c := c) hE hB (fun u hu => (hall u hu).1) gy (fun u hu => (hall u hu).2) (by omega) hqi (by rw [e1]; exact hs)
    rw [hlt2] at hcall
    apply ld_call (hcall) rfl (hE.f (by kernel_rfl))
    · ((repeat constructor); done)
    rintro _ _ ⟨rfl, rfl⟩
    simp only [List.cons_append, List.nil_append]
    refine ⟨by (apply ent; (repeat constructor); done), ?_⟩
    apply d_take 9 rfl
    · exact y_move rfl
    · with_reducible (repeat (first | exact calm_body | apply calm_then | apply calm_block))
    · kernel_rfl
    · rfl
    apply d_take 10 rfl
    · exact y_extract rfl rfl
    · with_reducible (repeat (first | exact calm_body | apply calm_then | apply calm_block))
    · kernel_rfl
    · rfl
    apply d_take 11 rfl
    · exact y_extract rfl rfl
    · with_reducible (repeat (first | exact calm_body | apply calm_then | apply calm_block))
    · kernel_rfl
    · rfl
    apply d_take 12 rfl
    · exact y_extract rfl rfl
    · with_reducible (repeat (first | exact calm_body | apply calm_then | apply calm_block))
    · kernel_rfl
    · rfl
    apply d_take 13 rfl
    · exact y_assign rfl
    · with_reducible (repeat (first | exact calm_body | apply calm_then | apply calm_block))
    · kernel_rfl
    · rfl
    apply d_take 14 rfl
    · exact y_assign rfl
    · with_reducible (repeat (first | exact calm_body | apply calm_then | apply calm_block))
    · kernel_rfl
    · rfl
    apply d_take 15 rfl
    · exact y_assign rfl
    · with_reducible (repeat (first | exact calm_body | apply calm_then | apply calm_block))
    · kernel_rfl
    · rfl
    refine d_nil (by kernel_rfl) ?_
    refine a_then (w_seq (w_seq (w_region ?_)))
    refine l_yield (y_move rfl) rfl ?_
    refine l_heap ent_old ?_
    apply l_loud (by kernel_rfl) rfl
    apply ld_call (ct_refSorted (ts := ts) hE hT hok0 (by omega) (b := false) ⟨fun h => (by cases h), fun h => absurd h hs⟩) rfl (hE.f (by kernel_rfl))
    · ((repeat constructor); done)
    rintro _ _ ⟨rfl, rfl⟩
    simp only [List.cons_append, List.nil_append]
    refine l_yield (y_not rfl) rfl ?_
    refine l_nil (a_then ?_)
    refine w_cond_t rfl ?_
    refine w_seq (w_region ?_)
    refine l_yield (y_move rfl) rfl ?_
    refine l_yield (y_eq rfl rfl) rfl ?_
    refine l_yield (y_move rfl) rfl ?_
    skip
    refine l_on rfl rfl ?_
    refine l_yield (y_move rfl) rfl ?_
    refine l_on rfl rfl ?_
    refine l_yield (y_eq rfl rfl) rfl ?_
    apply l_yield
    · (first | exact y_pick_t rfl rfl | exact y_pick_f rfl rfl)
    · rfl
    refine l_yield (y_move rfl) rfl ?_
    skip
    refine l_on rfl rfl ?_
    refine l_yield (y_move rfl) rfl ?_
    refine l_on rfl rfl ?_
    apply l_loud (by kernel_rfl) rfl
    apply ld_call (ct_Is hE (by decide)) rfl (hE.f (by kernel_rfl))
    · ((repeat constructor); done)
    rintro _ _ ⟨rfl, rfl⟩
    simp only [List.cons_append, List.nil_append]
    apply l_yield
    · (first | exact y_pick_t rfl rfl | exact y_pick_f rfl rfl)
    · rfl
    refine l_yield (y_assign rfl) rfl ?_
    refine l_nil (a_then (w_ret (a_then_ret ?_)))
    apply a_ret
    · rfl
    · (apply Rs.tmp rfl; exact Rs.nil)
    · exact ⟨rfl, rfl⟩
    · (apply ent; (repeat constructor); done)
end Go.Proofs.YtlmdkaniblhdmaaDoor
