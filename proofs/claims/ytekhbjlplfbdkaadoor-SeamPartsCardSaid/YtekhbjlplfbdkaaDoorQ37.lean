/- Package seam: Concat. -/
import Derived.Test.YtekhbjlplfbdkaaDoorQ08
import Derived.Test.YtekhbjlplfbdkaaDoorQ13
import Derived.Test.YtekhbjlplfbdkaaDoorQ36
import Derived.Laws.Small
set_option linter.unusedVariables false
set_option linter.unusedSimpArgs false
namespace Go.Proofs.YtekhbjlplfbdkaaDoor
open Go Go.RowKit Sl Eg
set_option maxRecDepth 10000
variable {E : Env} {Es : List Ent} {pp tb s most : Nat}
/-- IDs that are the signatures of texts, one by one. -/
inductive Sns (L : List Rl) : List (List UInt8) → List Nat → Prop where
  | nil : Sns L [] []
  | cons {t : List UInt8} {x : Nat} {ts : List (List UInt8)} {ids : List Nat} : Sn L t x → Sns L ts ids → Sns L (t :: ts) (x :: ids)
theorem Sns.length {L : List Rl} {ts : List (List UInt8)} {ids : List Nat} (h : Sns L ts ids) : ids.length = ts.length := by
  induction h with
  | nil => rfl
  | cons _ _ ih => simp [ih]
theorem Sns.append {L : List Rl} {ts us : List (List UInt8)} {ids js : List Nat} (h : Sns L ts ids) (h' : Sns L us js) : Sns L (ts ++ us) (ids ++ js) := by
  induction h with
  | nil => exact h'
  | cons h1 _ ih => exact .cons h1 ih
theorem Sns.one {L : List Rl} {t : List UInt8} {x : Nat} (h : Sn L t x) : Sns L [t] [x] := .cons h .nil
theorem Sns.up {Es M : List Ent} {ts : List (List UInt8)} {ids : List Nat} (h : Sns (rls Es) ts ids) : Sns (rls (Es ++ M)) ts ids := by
  induction h with
  | nil => exact .nil
  | cons h1 _ ih => exact .cons h1.up ih
theorem Sns.get {L : List Rl} {ts : List (List UInt8)} {ids : List Nat} (h : Sns L ts ids) : ∀ {k x : Nat}, ids[k]? = some x → ∃ t, ts[k]? = some t ∧ Sn L t x := by
  induction h with
  | nil => intro k x e; simp at e
  | cons h1 _ ih =>
    intro k x e
    cases k with
    | zero => simp at e; subst e; exact ⟨_, rfl, h1⟩
    | succ k => exact ih (k := k) (by simpa using e)
theorem flat_get {ts : List (List UInt8)} {k : Nat} {t : List UInt8} (h : ts[k]? = some t) : (ts.take (k + 1)).flatten = (ts.take k).flatten ++ t := by
  rw [List.take_add_one, h]; simp
theorem flat_le (ts : List (List UInt8)) (k : Nat) : (ts.take k).flatten.length ≤ ts.flatten.length := by
  have e : ts = ts.take k ++ ts.drop k := (List.take_append_drop k ts).symm
  conv => rhs; rw [e, List.flatten_append, List.length_append]
  omega
theorem idC_one (ids : List Nat) : ∀ u ∈ idC ids, u.oneCell' = true := fun u h => by
  obtain ⟨x, _, rfl⟩ := List.mem_map.1 h; rfl
theorem idC_len (ids : List Nat) : (idC ids).length = ids.length := by simp [idC]
/-- The next level takes the place of the first symbols of this one. -/
theorem over_set {out ids : List Nat} {x : Nat} (h : out.length < ids.length) : setMany (idC (out ++ ids.drop out.length)) out.length [.int .i64 (x : Nat)] = idC ((out ++ [x]) ++ ids.drop (out ++ [x]).length) := by
  rw [setMany_eq _ _ _ (by rw [idC_len, List.length_append, List.length_drop]; simp; omega), idC_append, idC_append, idC_append, List.length_append, List.length_singleton, List.length_singleton]
  have e1 : (idC out ++ idC (ids.drop out.length)).take out.length = idC out := List.take_left' (idC_len out)
  have e2 : (idC out ++ idC (ids.drop out.length)).drop (out.length + 1) = idC (ids.drop (out.length + 1)) := by
    rw [List.drop_append, idC_len, List.drop_of_length_le (by rw [idC_len]; omega), show out.length + 1 - out.length = 1 by omega]
    simp [idC, List.map_drop]
  rw [e1, e2]
  simp [idC]
theorem over_get {out ids : List Nat} {k x : Nat} (h : out.length ≤ k) (hx : ids[k]? = some x) : (out ++ ids.drop out.length)[k]? = some x := by
  rw [List.getElem?_append_right h, List.getElem?_drop, show out.length + (k - out.length) = k by omega]; exact hx
theorem ct_cloneI (hE : Seat E) {g c : Nat} {ids : List Nat} (h0 : 0 < ids.length) (hl : ids.length < 1000000) :
    Ct E 50 [.slice (some ⟨g, 0, none⟩) ids.length c] [sl (some ⟨g, 0, none⟩) c 38 1 ids.length (idC ids)]
      (fun v Q => ∃ g' c', v = .slice (some ⟨g', 0, none⟩) ids.length c' ∧ Q = [sl (some ⟨g', 0, none⟩) c' 38 1 ids.length (idC ids), sl (some ⟨g, 0, none⟩) c 38 1 ids.length (idC ids)]) := by
  refine fn_enter (hE.fn Tryd.func50) rfl rfl rfl (fun R => ?_)
  simp only [argsL, List.cons_append, List.nil_append]
  refine w_seq (w_region ?_)
  refine l_yield (y_assign rfl) rfl ?_
  refine l_nil (a_then (w_seq (w_seq (w_region ?_))))
  refine l_yield (y_move rfl) rfl ?_
  refine l_yield (y_eq_sl rfl (hE.t rfl)) rfl ?_
  refine l_nil (a_then ?_)
  refine w_cond_f rfl ?_
  refine w_skip (a_then (w_seq (w_region ?_)))
  apply l_loud (by kernel_rfl) rfl
  refine ld_buildSlice0 (hE.t rfl) (fun b5 => ?_)
  refine l_yield (y_move rfl) rfl ?_
  apply l_loud (by kernel_rfl) rfl
  apply ld_append_sl (hE.t rfl) (hE.t rfl) rfl rfl rfl
  · ((repeat constructor); done)
  · ((repeat constructor); done)
  · exact idC_one ids
  · exact h0
  · omega
  · unfold maxLen; omega
  intro g' c' m' xs' hm hx
  obtain rfl : m' = ids.length := by omega
  obtain rfl : xs' = idC ids := by rw [hx]; rfl
  refine l_yield (y_assign rfl) rfl ?_
  refine l_nil (a_then (w_ret ?_))
  apply a_ret
  · rfl
  · (apply Rs.tmp rfl; exact Rs.nil)
  · exact ⟨g', c', rfl, rfl⟩
  · (apply ent; (repeat constructor); done)
end Go.Proofs.YtekhbjlplfbdkaaDoor
/- Package seam: Concat. -/
namespace Go.Proofs.YtekhbjlplfbdkaaDoor
open Go Go.RowKit Sl Eg
set_option maxRecDepth 10000
variable {E : Env} {Es : List Ent} {pp tb s most : Nat}
structure CoG where
  M : List Ent
  ids : List Nat
  ts : List (List UInt8)
structure CiG where
  M : List Ent
  out : List Nat
  ts : List (List UInt8)
theorem cell_one {v : Int} : setMany (List.map (fun i => [Value.int IntKind.i64 0].getD (i % [Value.int IntKind.i64 0].length) default) (List.range 1)) 0 (cellsL (.int .i64 v)) = [.int .i64 v] := rfl
theorem ct_Concat (hE : Seat E) (hB : Base E.w0) {g c : Nat} {ids : List Nat} {ts : List (List UInt8)} (h : Sns (rls Es) ts ids) (h0 : 0 < ids.length) (hl : ids.length < 1000000) (hlen : ts.flatten.length ≤ 1000000000) (hroom : Es.length + ids.length * ts.flatten.length ≤ most) :
    Ct E 25 [.pointer (some ⟨pp, 0, none⟩), .slice (some ⟨g, 0, none⟩) ids.length c] [cells pp [.pointer (some ⟨s, 0, none⟩), .pointer (some ⟨tb, 0, none⟩)] 78, tabP tb s (rls Es), storeP s most Es, sl (some ⟨g, 0, none⟩) c 38 1 ids.length (idC ids)]
      (fun v Q => ∃ M id, v = .tuple #[.int .i64 (id : Nat), .nilIface] ∧ M.length ≤ ids.length * ts.flatten.length ∧ Sn (rls (Es ++ M)) ts.flatten id ∧ Q = [cells pp [.pointer (some ⟨s, 0, none⟩), .pointer (some ⟨tb, 0, none⟩)] 78, tabP tb s (rls (Es ++ M)), storeP s most (Es ++ M), sl (some ⟨g, 0, none⟩) c 38 1 ids.length (idC ids)]) := by
  have hmx : maxLength = 1152921504606846976 := rfl
  have hnl := h.length
  have hget : ∀ {k : Nat}, k < ids.length → ∃ x t, ids[k]? = some x ∧ ts[k]? = some t ∧ Sn (rls Es) t x := fun hk => by
    obtain ⟨x, hx⟩ : ∃ x, ids[_]? = some x := ⟨_, List.getElem?_eq_getElem hk⟩
    obtain ⟨t, h1, h2⟩ := h.get hx
    exact ⟨x, t, hx, h1, h2⟩
  refine fn_enter (hE.fn Tryd.func25) rfl rfl rfl (fun R => ?_)
  simp only [argsL, List.cons_append, List.nil_append]
  skip
  refine w_seq (w_region ?_)
  refine l_yield (y_assign rfl) rfl ?_
  refine l_yield (y_assign rfl) rfl ?_
  refine l_nil (a_then (w_seq (w_seq (w_region ?_))))
  refine l_yield (y_move rfl) rfl ?_
  apply l_loud (by kernel_rfl) rfl
  apply ld_call (ct_Store hE) rfl (hE.f (by kernel_rfl))
  · ((repeat constructor); done)
  rintro _ _ ⟨rfl, rfl⟩
  simp only [List.cons_append, List.nil_append]
  apply l_yield
  · (first | exact y_eq_ptr rfl (hE.t rfl) | exact y_eq_nil rfl (hE.t rfl))
  · rfl
  refine l_nil (a_then ?_)
  refine w_cond_f rfl ?_
  refine w_skip (a_then (w_seq (w_seq (w_region ?_))))
  refine l_yield (y_move rfl) rfl ?_
  refine l_yield (y_len_slice rfl (hE.t rfl)) rfl ?_
  refine l_yield (y_move rfl) rfl ?_
  refine l_nil (a_then (w_block ?_))
  skip
  refine w_loop (fun k : Nat => [(0, .pointer (some ⟨pp, 0, none⟩)), (1, .slice (some ⟨g, 0, none⟩) ids.length c), (23, .slice (some ⟨g, 0, none⟩) ids.length c), (24, .int .i64 (ids.length : Nat)), (25, .int .i64 (k : Nat))]) (fun _ => [cells pp [.pointer (some ⟨s, 0, none⟩), .pointer (some ⟨tb, 0, none⟩)] 78, tabP tb s (rls Es), storeP s most Es, sl (some ⟨g, 0, none⟩) c 38 1 ids.length (idC ids), R]) (fun k => ids.length - k) (fun k => k ≤ ids.length) 0 (Nat.zero_le _) ⟨rfl, rfl, rfl, rfl, rfl, trivial⟩ ?_ ?_
  · (apply ent; (repeat constructor); done)
  intro k hk
  skip
  refine w_seq (w_region ?_)
  refine l_yield (y_lt rfl rfl) rfl ?_
  refine l_nil (a_then (w_seq ?_))
  refine w_cond_d rfl (fun hlt => ?_) (fun hlt => ?_)
  · skip
    have hkn : k < ids.length := by omega
    obtain ⟨x, t, hx, ht, hsn⟩ := hget hkn
    have f0 := idC_get hx ((k : Nat) : Int).toNat (by omega)
    have hx1 := hsn.gd.1
    rw [rls_length] at hx1
    refine w_skip (a_then (w_seq (w_block (w_seq (w_region ?_)))))
    apply l_yield
    · (first | exact y_indexAddr1 rfl rfl (hE.t rfl) (by omega) (by omega) | exact y_indexAddr rfl rfl (hE.t rfl) (by omega) (by omega))
    · rfl
    apply l_yield
    · (apply y_load rfl (hE.t rfl) rfl; (repeat (first | rfl | assumption | constructor)); done)
    · rfl
    refine l_yield (y_assign rfl) rfl ?_
    refine l_nil (a_then (w_seq (w_seq (w_region ?_))))
    refine l_yield (y_move rfl) rfl ?_
    refine l_yield (y_lt rfl rfl) rfl ?_
    refine l_yield (y_move rfl) rfl ?_
    refine l_split 31 rfl (fun h1 => ?_) (fun h1 => ?_)
    · exact absurd h1 (by omega)
    skip
    refine l_on rfl rfl ?_
    refine l_yield (y_move rfl) rfl ?_
    refine l_on rfl rfl ?_
    refine l_yield (y_move rfl) rfl ?_
    refine l_on rfl rfl ?_
    apply l_loud (by kernel_rfl) rfl
    apply ld_call (ct_Store hE) rfl (hE.f (by kernel_rfl))
    · ((repeat constructor); done)
    rintro _ _ ⟨rfl, rfl⟩
    simp only [List.cons_append, List.nil_append]
    refine l_on rfl rfl ?_
    apply l_loud (by kernel_rfl) rfl
    apply ld_call (ct_len hE) rfl (hE.f (by kernel_rfl))
    · ((repeat constructor); done)
    rintro _ _ ⟨rfl, rfl⟩
    simp only [List.cons_append, List.nil_append]
    refine l_on rfl rfl ?_
    refine l_yield (y_gt rfl rfl) rfl ?_
    apply l_yield
    · (first | exact y_pick_t rfl rfl | exact y_pick_f rfl rfl)
    · rfl
    refine l_nil (a_then ?_)
    refine w_cond_d rfl (fun h2 => ?_) (fun h2 => ?_)
    · exact absurd h2 (by omega)
    skip
    refine w_skip (a_then (w_seq (w_region ?_)))
    refine l_yield (y_move rfl) rfl ?_
    refine l_yield (y_move rfl) rfl ?_
    apply l_loud (by kernel_rfl) rfl
    apply ld_call (ct_TopN hE hB hsn.gd) rfl (hE.f (by kernel_rfl))
    · ((repeat constructor); done)
    rintro _ _ ⟨rfl, rfl⟩
    simp only [List.cons_append, List.nil_append]
    refine l_yield (y_move rfl) rfl ?_
    refine l_yield (y_extract rfl rfl) rfl ?_
    refine l_yield (y_extract rfl rfl) rfl ?_
    refine l_yield (y_assign rfl) rfl ?_
    refine l_yield (y_assign rfl) rfl ?_
    refine l_nil (a_then (w_seq (w_region ?_)))
    refine l_yield (y_move rfl) rfl ?_
    apply l_yield
    · (first | exact y_ok_ne rfl (hE.t rfl) | exact y_err_ne rfl (hE.t rfl))
    · rfl
    refine l_nil (a_then ?_)
    refine w_cond_f rfl ?_
    refine w_skip (a_block (a_then (w_region ?_)))
    refine l_yield (y_add rfl rfl (by omega) (by omega)) rfl ?_
    refine l_yield (y_move rfl) rfl ?_
    refine l_nil ?_
    refine wa_eq 25 (.int .i64 ((k + 1 : Nat) : Int)) rfl (int_eq (by omega)) ?_
    refine a_round (ι := Nat) (j := k + 1) (by omega) (by show ids.length - (k + 1) < ids.length - k; omega) ⟨rfl, rfl, rfl, rfl, rfl, trivial⟩ ?_
    (apply ent; (repeat constructor); done)
  skip
  obtain rfl : k = ids.length := by omega
  refine w_exit (a_then_exit (a_then_exit (a_block_exit (a_then (w_seq (w_region ?_))))))
  refine l_yield (y_assign rfl) rfl ?_
  refine l_nil (a_then (w_seq (w_seq (w_region ?_))))
  refine l_yield (y_move rfl) rfl ?_
  refine l_yield (y_len_slice rfl (hE.t rfl)) rfl ?_
  refine l_yield (y_move rfl) rfl ?_
  refine l_nil (a_then (w_block ?_))
  skip
  refine w_loop (fun k : Nat => [(0, .pointer (some ⟨pp, 0, none⟩)), (1, .slice (some ⟨g, 0, none⟩) ids.length c), (10, .int .i64 ((ts.take k).flatten.length : Nat)), (49, .slice (some ⟨g, 0, none⟩) ids.length c), (50, .int .i64 (ids.length : Nat)), (51, .int .i64 (k : Nat))]) (fun _ => [cells pp [.pointer (some ⟨s, 0, none⟩), .pointer (some ⟨tb, 0, none⟩)] 78, tabP tb s (rls Es), storeP s most Es, sl (some ⟨g, 0, none⟩) c 38 1 ids.length (idC ids), R]) (fun k => ids.length - k) (fun k => k ≤ ids.length) 0 (Nat.zero_le _) ⟨rfl, rfl, rfl, rfl, rfl, rfl, trivial⟩ ?_ ?_
  · (apply ent; (repeat constructor); done)
  intro k hk
  skip
  refine w_seq (w_region ?_)
  refine l_yield (y_lt rfl rfl) rfl ?_
  refine l_nil (a_then (w_seq ?_))
  refine w_cond_d rfl (fun hlt => ?_) (fun hlt => ?_)
  · skip
    have hkn : k < ids.length := by omega
    obtain ⟨x, t, hx, ht, hsn⟩ := hget hkn
    have f0 := idC_get hx ((k : Nat) : Int).toNat (by omega)
    have eT : (ts.take (k + 1)).flatten.length = (ts.take k).flatten.length + len (rls Es) x := by rw [flat_get ht, List.length_append, hsn.len]
    have hTl := flat_le ts (k + 1)
    refine w_skip (a_then (w_seq (w_block (w_seq (w_region ?_)))))
    apply l_yield
    · (first | exact y_indexAddr1 rfl rfl (hE.t rfl) (by omega) (by omega) | exact y_indexAddr rfl rfl (hE.t rfl) (by omega) (by omega))
    · rfl
    apply l_yield
    · (apply y_load rfl (hE.t rfl) rfl; (repeat (first | rfl | assumption | constructor)); done)
    · rfl
    refine l_yield (y_assign rfl) rfl ?_
    refine l_nil (a_then (w_seq (w_region ?_)))
    refine l_yield (y_assign rfl) rfl ?_
    refine l_nil (a_then (w_seq (w_region ?_)))
    refine l_yield (y_move rfl) rfl ?_
    refine l_yield (y_move rfl) rfl ?_
    refine l_yield (y_move rfl) rfl ?_
    apply l_loud (by kernel_rfl) rfl
    apply ld_call (ct_ssize hE hsn.gd.1) rfl (hE.f (by kernel_rfl))
    · ((repeat constructor); done)
    rintro _ _ ⟨rfl, rfl⟩
    simp only [List.cons_append, List.nil_append]
    skip
    apply l_loud (by kernel_rfl) rfl
    apply ld_call (ct_ladd hE (by omega)) rfl (hE.f (by kernel_rfl))
    · ((repeat constructor); done)
    rintro _ _ ⟨rfl, rfl⟩
    simp only [List.cons_append, List.nil_append]
    refine l_yield (y_move rfl) rfl ?_
    refine l_yield (y_extract rfl rfl) rfl ?_
    refine l_yield (y_extract rfl rfl) rfl ?_
    refine l_yield (y_assign rfl) rfl ?_
    refine l_yield (y_assign rfl) rfl ?_
    refine l_nil (a_then (w_seq (w_region ?_)))
    refine l_yield (y_move rfl) rfl ?_
    apply l_yield
    · (first | exact y_ok_ne rfl (hE.t rfl) | exact y_err_ne rfl (hE.t rfl))
    · rfl
    refine l_nil (a_then ?_)
    refine w_cond_f rfl ?_
    refine w_skip (a_block (a_then (w_region ?_)))
    refine l_yield (y_add rfl rfl (by omega) (by omega)) rfl ?_
    refine l_yield (y_move rfl) rfl ?_
    refine l_nil ?_
    rw [← eT]
    refine wa_eq 51 (.int .i64 ((k + 1 : Nat) : Int)) rfl (int_eq (by omega)) ?_
    refine a_round (ι := Nat) (j := k + 1) (by omega) (by show ids.length - (k + 1) < ids.length - k; omega) ⟨rfl, rfl, rfl, rfl, rfl, rfl, trivial⟩ ?_
    (apply ent; (repeat constructor); done)
  skip
  obtain rfl : k = ids.length := by omega
  refine w_exit (a_then_exit (a_then_exit (a_block_exit (a_then (w_seq (w_seq (w_region ?_)))))))
  refine l_yield (y_move rfl) rfl ?_
  refine l_yield (y_len_slice rfl (hE.t rfl)) rfl ?_
  refine l_yield (y_eq rfl rfl) rfl ?_
  refine l_nil (a_then ?_)
  refine w_cond_d rfl (fun hz => ?_) (fun hz => ?_)
  · exact absurd hz (by omega)
  skip
  refine w_skip (a_then (w_seq (w_region ?_)))
  refine l_yield (y_move rfl) rfl ?_
  apply l_loud (by kernel_rfl) rfl
  apply ld_call (ct_cloneI hE h0 hl) rfl (hE.f (by kernel_rfl))
  · ((repeat constructor); done)
  rintro _ _ ⟨g2, c2, rfl, rfl⟩
  simp only [List.cons_append, List.nil_append]
  refine l_yield (y_assign rfl) rfl ?_
  refine l_nil (a_then (w_seq (w_block ?_)))
  skip
  refine w_loop (fun x : CoG => [(0, .pointer (some ⟨pp, 0, none⟩)), (14, .slice (some ⟨g2, 0, none⟩) x.ids.length c2)]) (fun x => [cells pp [.pointer (some ⟨s, 0, none⟩), .pointer (some ⟨tb, 0, none⟩)] 78, tabP tb s (rls (Es ++ x.M)), storeP s most (Es ++ x.M), sl (some ⟨g2, 0, none⟩) c2 38 1 x.ids.length (idC x.ids), sl (some ⟨g, 0, none⟩) c 38 1 ids.length (idC ids), R]) (fun x => x.ids.length) (fun x => 1 ≤ x.ids.length ∧ x.ids.length < 1000000 ∧ Sns (rls (Es ++ x.M)) x.ts x.ids ∧ x.ts.flatten = ts.flatten ∧ x.M.length + x.ids.length * ts.flatten.length ≤ ids.length * ts.flatten.length) ⟨[], ids, ts⟩ ⟨h0, hl, by rw [List.append_nil]; exact h, rfl, by simp⟩ ⟨rfl, rfl, trivial⟩ ?_ ?_
  · rw [List.append_nil]
    (apply ent; (repeat constructor); done)
  rintro ⟨M, js, us⟩ ⟨hj1, hjl, hs, hfl, hpot⟩
  simp only at hj1 hjl hs hfl hpot ⊢
  skip
  refine w_seq (w_seq (w_region ?_))
  refine l_yield (y_move rfl) rfl ?_
  refine l_yield (y_len_slice rfl (hE.t rfl)) rfl ?_
  refine l_yield (y_gt rfl rfl) rfl ?_
  refine l_nil (a_then ?_)
  refine w_cond_d rfl (fun hgt => ?_) (fun hgt => ?_)
  · skip
    refine w_skip (a_then (w_block (w_seq (w_region ?_))))
    refine l_yield (y_move rfl) rfl ?_
    refine l_yield (y_slice_hi 0 rfl rfl (hE.t rfl) rfl (Nat.zero_le _)) rfl ?_
    refine l_yield (y_assign rfl) rfl ?_
    refine l_nil (a_then (w_seq (w_seq (w_region ?_))))
    refine l_yield (y_assign rfl) rfl ?_
    refine l_nil (a_then (w_block ?_))
    skip
    refine w_loop (fun x : CiG => [(0, .pointer (some ⟨pp, 0, none⟩)), (14, .slice (some ⟨g2, 0, none⟩) js.length c2), (15, .slice (some ⟨g2, 0, none⟩) x.out.length c2), (16, .int .i64 ((2 * x.out.length : Nat) : Int))]) (fun x => [cells pp [.pointer (some ⟨s, 0, none⟩), .pointer (some ⟨tb, 0, none⟩)] 78, tabP tb s (rls (Es ++ x.M)), storeP s most (Es ++ x.M), sl (some ⟨g2, 0, none⟩) c2 38 1 js.length (idC (x.out ++ js.drop x.out.length)), sl (some ⟨g, 0, none⟩) c 38 1 ids.length (idC ids), R]) (fun x => js.length - 2 * x.out.length) (fun x => 2 * x.out.length ≤ js.length ∧ (∃ N, x.M = M ++ N) ∧ Sns (rls (Es ++ x.M)) x.ts x.out ∧ x.ts.flatten = (us.take (2 * x.out.length)).flatten ∧ x.M.length + (js.length - x.out.length) * ts.flatten.length ≤ ids.length * ts.flatten.length) ⟨M, [], []⟩ ⟨by simp, ⟨[], by simp⟩, .nil, by simp, by simpa using hpot⟩ ⟨rfl, rfl, rfl, rfl, trivial⟩ ?_ ?_
    · simp only [List.length_nil, List.drop_zero, List.nil_append]
      (apply ent; (repeat constructor); done)
    rintro ⟨M1, out, vs⟩ ⟨ho, ⟨N, hMN⟩, hso, hvf, hpot1⟩
    simp only at ho hMN hso hvf hpot1 ⊢
    subst hMN
    have hs1 : Sns (rls (Es ++ (M ++ N))) us js := by rw [← List.append_assoc]; exact hs.up
    skip
    refine w_seq (w_seq (w_region ?_))
    refine l_yield (y_move rfl) rfl ?_
    refine l_yield (y_add rfl rfl (by omega) (by omega)) rfl ?_
    refine l_yield (y_move rfl) rfl ?_
    refine l_yield (y_len_slice rfl (hE.t rfl)) rfl ?_
    refine l_yield (y_lt rfl rfl) rfl ?_
    refine l_nil (a_then ?_)
    refine w_cond_d rfl (fun hin => ?_) (fun hin => ?_)
    · skip
      have hi1 : 2 * out.length < js.length := by omega
      have hi2 : 2 * out.length + 1 < js.length := by omega
      obtain ⟨x, hx⟩ : ∃ x, js[2 * out.length]? = some x := ⟨_, List.getElem?_eq_getElem hi1⟩
      obtain ⟨y, hy⟩ : ∃ x, js[2 * out.length + 1]? = some x := ⟨_, List.getElem?_eq_getElem hi2⟩
      obtain ⟨tx, htx, hsx⟩ := hs1.get hx
      obtain ⟨ty, hty, hsy⟩ := hs1.get hy
      have f0 := idC_get (over_get (out := out) (by omega) hx) ((2 * out.length : Nat) : Int).toNat (by omega)
      have f1 := idC_get (over_get (out := out) (by omega) hy) (((2 * out.length : Nat) : Int) + 1).toNat (by omega)
      have e1 := flat_get htx
      have e2 := flat_get hty
      have hle := flat_le us (2 * out.length + 1 + 1)
      have hxy : tx.length + ty.length ≤ ts.flatten.length := by
        rw [e2, e1, hfl] at hle
        simp only [List.length_append] at hle
        omega
      have hsub : (js.length - out.length) * ts.flatten.length = (js.length - (out.length + 1)) * ts.flatten.length + ts.flatten.length := by
        rw [show js.length - out.length = (js.length - (out.length + 1)) + 1 by omega, Nat.succ_mul]
      have hr : (Es ++ (M ++ N)).length + (tx.length + ty.length) ≤ most := by
        have e3 : (Es ++ (M ++ N)).length = Es.length + (M ++ N).length := List.length_append
        omega
      have hl2 : tx.length + ty.length ≤ 1000000000 := by omega
      refine w_skip (a_then ?_)
      refine w_seq (w_block (w_seq ?_))
      refine w_held ([sl (some ⟨g2, 0, none⟩) c2 38 1 js.length (idC (out ++ js.drop out.length))]) ?_ ?_
      · (apply ent; (repeat constructor); done)
      apply d_take 0 rfl
      · exact y_move rfl
      · with_reducible (repeat (first | exact calm_body | apply calm_then | apply calm_block))
      · kernel_rfl
      · rfl
      apply d_take 1 rfl
      · exact y_move rfl
      · with_reducible (repeat (first | exact calm_body | apply calm_then | apply calm_block))
      · kernel_rfl
      · rfl
      apply d_take 2 rfl
      · exact y_move rfl
      · with_reducible (repeat (first | exact calm_body | apply calm_then | apply calm_block))
      · kernel_rfl
      · rfl
      apply d_take 3 rfl
      · (first | exact y_indexAddr1 rfl rfl (hE.t rfl) (by omega) (by omega) | exact y_indexAddr rfl rfl (hE.t rfl) (by omega) (by omega))
      · with_reducible (repeat (first | exact calm_body | apply calm_then | apply calm_block))
      · kernel_rfl
      · rfl
      apply d_take 4 rfl
      · (apply y_load rfl (hE.t rfl) rfl; (repeat (first | rfl | assumption | constructor)); done)
      · with_reducible (repeat (first | exact calm_body | apply calm_then | apply calm_block))
      · kernel_rfl
      · rfl
      apply d_take 5 rfl
      · exact y_move rfl
      · with_reducible (repeat (first | exact calm_body | apply calm_then | apply calm_block))
      · kernel_rfl
      · rfl
      apply d_take 6 rfl
      · exact y_move rfl
      · with_reducible (repeat (first | exact calm_body | apply calm_then | apply calm_block))
      · kernel_rfl
      · rfl
      apply d_take 7 rfl
      · exact y_add rfl rfl (by omega) (by omega)
      · with_reducible (repeat (first | exact calm_body | apply calm_then | apply calm_block))
      · kernel_rfl
      · rfl
      apply d_take 8 rfl
      · (first | exact y_indexAddr1 rfl rfl (hE.t rfl) (by omega) (by omega) | exact y_indexAddr rfl rfl (hE.t rfl) (by omega) (by omega))
      · with_reducible (repeat (first | exact calm_body | apply calm_then | apply calm_block))
      · kernel_rfl
      · rfl
      apply d_take 9 rfl
      · (apply y_load rfl (hE.t rfl) rfl; (repeat (first | rfl | assumption | constructor)); done)
      · with_reducible (repeat (first | exact calm_body | apply calm_then | apply calm_block))
      · kernel_rfl
      · rfl
      apply d_loud 10 rfl (by kernel_rfl) rfl
      apply ld_call (ct_join (Es := Es ++ (M ++ N)) hE hB hsx hsy hl2 hr) rfl (hE.f (by kernel_rfl))
      · ((repeat constructor); done)
      rintro _ _ ⟨N2, id, rfl, hN2, hid, rfl⟩
      rw [List.append_assoc, List.append_assoc] at hid ⊢
      simp only [List.cons_append, List.nil_append]
      refine ⟨by (apply ent; (repeat constructor); done), ?_⟩
      apply d_take 11 rfl
      · exact y_move rfl
      · with_reducible (repeat (first | exact calm_body | apply calm_then | apply calm_block))
      · kernel_rfl
      · rfl
      apply d_take 12 rfl
      · exact y_extract rfl rfl
      · with_reducible (repeat (first | exact calm_body | apply calm_then | apply calm_block))
      · kernel_rfl
      · rfl
      apply d_take 13 rfl
      · exact y_extract rfl rfl
      · with_reducible (repeat (first | exact calm_body | apply calm_then | apply calm_block))
      · kernel_rfl
      · rfl
      apply d_take 14 rfl
      · exact y_assign rfl
      · with_reducible (repeat (first | exact calm_body | apply calm_then | apply calm_block))
      · kernel_rfl
      · rfl
      apply d_take 15 rfl
      · exact y_assign rfl
      · with_reducible (repeat (first | exact calm_body | apply calm_then | apply calm_block))
      · kernel_rfl
      · rfl
      refine d_nil (by kernel_rfl) ?_
      refine a_then (w_seq (w_seq (w_region ?_)))
      refine l_yield (y_move rfl) rfl ?_
      apply l_yield
      · (first | exact y_ok_ne rfl (hE.t rfl) | exact y_err_ne rfl (hE.t rfl))
      · rfl
      refine l_nil (a_then ?_)
      refine w_cond_f rfl ?_
      refine w_skip (a_then (w_region ?_))
      refine l_yield (y_move rfl) rfl ?_
      refine l_yield (y_move rfl) rfl ?_
      apply l_loud (by kernel_rfl) rfl
      refine ld_buildSlice (hE.t rfl) (hE.t rfl) rfl rfl rfl (fun b103 => ?_)
      apply l_loud (by kernel_rfl) rfl
      apply ld_append_in (hE.t rfl) (hE.t rfl) rfl rfl
      · ((repeat constructor); done)
      · ((repeat constructor); done)
      · rfl
      · rfl
      · omega
      refine l_yield (y_assign rfl) rfl ?_
      refine l_nil (a_block (a_then (w_region ?_)))
      refine l_yield (y_move rfl) rfl ?_
      refine l_yield (y_add rfl rfl (by omega) (by omega)) rfl ?_
      refine l_yield (y_assign rfl) rfl ?_
      refine l_nil ?_
      have hol : out.length < js.length := by omega
      have hset := over_set (out := out) (ids := js) (x := id) hol
      have e4 : (out ++ [id]).length = out.length + 1 := by simp
      refine wa_eq 15 (.slice (some ⟨g2, 0, none⟩) (out ++ [id]).length c2) rfl (by rw [e4]) ?_
      refine wa_eq 16 (.int .i64 ((2 * (out ++ [id]).length : Nat) : Int)) rfl (int_eq (by rw [e4]; omega)) ?_
      refine a_round (ι := CiG) (j := ⟨M ++ (N ++ N2), out ++ [id], vs ++ [tx ++ ty]⟩) ⟨by show 2 * (out ++ [id]).length ≤ _; rw [e4]; omega, ⟨_, rfl⟩, ?_, ?_, ?_⟩ (by show js.length - 2 * (out ++ [id]).length < js.length - 2 * out.length; rw [e4]; omega) ⟨rfl, rfl, rfl, rfl, trivial⟩ ?_
      · show Sns (rls (Es ++ (M ++ (N ++ N2)))) (vs ++ [tx ++ ty]) (out ++ [id])
        refine Sns.append ?_ (.one hid)
        have := hso.up (M := N2)
        rwa [List.append_assoc, List.append_assoc] at this
      · show (vs ++ [tx ++ ty]).flatten = (us.take (2 * (out ++ [id]).length)).flatten
        rw [e4, show 2 * (out.length + 1) = 2 * out.length + 1 + 1 by omega, e2, e1, List.flatten_append, hvf]
        simp
      · show (M ++ (N ++ N2)).length + (js.length - (out ++ [id]).length) * ts.flatten.length ≤ _
        rw [e4, ← List.append_assoc, List.length_append]
        omega
      · simp only [Nat.mul_one]
        rw [cell_one, hset]
        (apply ent; (repeat constructor); done)
    · skip
      have hN2 : js.length = 2 * out.length ∨ js.length = 2 * out.length + 1 := by omega
      have hlev : js.length = 2 * out.length + 1 → ∃ x t, js[2 * out.length]? = some x ∧ us[2 * out.length]? = some t ∧ Sn (rls (Es ++ (M ++ N))) t x := fun e => by
        obtain ⟨x, hx⟩ : ∃ x, js[2 * out.length]? = some x := ⟨_, List.getElem?_eq_getElem (by omega)⟩
        obtain ⟨t, h1, h2⟩ := hs1.get hx
        exact ⟨x, t, hx, h1, h2⟩
      have husl := hs.length
      refine w_exit (a_then_exit (a_then_exit (a_block_exit (a_then (w_seq (w_seq (w_region ?_)))))))
      refine l_yield (y_move rfl) rfl ?_
      refine l_yield (y_len_slice rfl (hE.t rfl)) rfl ?_
      refine l_yield (y_rem rfl rfl (by omega) (by omega)) rfl ?_
      refine l_yield (y_eq rfl rfl) rfl ?_
      refine l_nil (a_then ?_)
      refine w_cond_d rfl (fun hod => ?_) (fun hod => ?_)
      · skip
        have hno : js.length = 2 * out.length + 1 := by omega
        obtain ⟨x, t, hx, ht, hsx⟩ := hlev hno
        have hol : out.length < js.length := by omega
        have f0 := idC_get (over_get (out := out) (by omega) hx) (((js.length : Nat) : Int) - 1).toNat (by omega)
        have hset := over_set (out := out) (ids := js) (x := x) hol
        have e4 : (out ++ [x]).length = out.length + 1 := by simp
        have e5 : us.take (2 * out.length + 1) = us := List.take_of_length_le (by omega)
        have e6 := flat_get ht
        rw [e5] at e6
        refine w_region ?_
        refine l_yield (y_move rfl) rfl ?_
        refine l_yield (y_move rfl) rfl ?_
        refine l_yield (y_move rfl) rfl ?_
        refine l_yield (y_len_slice rfl (hE.t rfl)) rfl ?_
        refine l_yield (y_sub rfl rfl (by omega) (by omega)) rfl ?_
        apply l_yield
        · (first | exact y_indexAddr1 rfl rfl (hE.t rfl) (by omega) (by omega) | exact y_indexAddr rfl rfl (hE.t rfl) (by omega) (by omega))
        · rfl
        apply l_yield
        · (apply y_load rfl (hE.t rfl) rfl; (repeat (first | rfl | assumption | constructor)); done)
        · rfl
        apply l_loud (by kernel_rfl) rfl
        refine ld_buildSlice (hE.t rfl) (hE.t rfl) rfl rfl rfl (fun b116 => ?_)
        apply l_loud (by kernel_rfl) rfl
        apply ld_append_in (hE.t rfl) (hE.t rfl) rfl rfl
        · ((repeat constructor); done)
        · ((repeat constructor); done)
        · rfl
        · rfl
        · omega
        refine l_yield (y_assign rfl) rfl ?_
        refine l_nil (a_then (w_region ?_))
        refine l_yield (y_move rfl) rfl ?_
        refine l_yield (y_assign rfl) rfl ?_
        refine l_nil (a_block ?_)
        refine wa_eq 14 (.slice (some ⟨g2, 0, none⟩) (out ++ [x]).length c2) rfl (by rw [e4]) ?_
        simp only [Nat.mul_one]
        rw [cell_one, hset]
        refine wa_heap (ent_head (p := sl (some ⟨g2, 0, none⟩) c2 38 1 js.length (idC ((out ++ [x]) ++ js.drop (out ++ [x]).length))) (p' := sl (some ⟨g2, 0, none⟩) c2 38 1 (out ++ [x]).length (idC (out ++ [x]))) (by ((repeat constructor); done)) (sl_cut (by rw [e4]; omega) (by rw [Nat.mul_one, idC_append]; exact List.take_left' (idC_len _)) (by simp))) ?_
        refine a_round (ι := CoG) (j := ⟨M ++ N, out ++ [x], vs ++ [t]⟩) ⟨?_, ?_, ?_, ?_, ?_⟩ (by show (out ++ [x]).length < js.length; rw [e4]; omega) ⟨rfl, rfl, trivial⟩ ?_
        · show 1 ≤ (out ++ [x]).length; omega
        · show (out ++ [x]).length < 1000000; omega
        · exact hso.append (.one hsx)
        · show (vs ++ [t]).flatten = _
          rw [List.flatten_append, hvf, ← hfl, e6]; simp
        · show (M ++ N).length + (out ++ [x]).length * _ ≤ _
          rw [e4]
          rw [show js.length - out.length = out.length + 1 by omega] at hpot1
          exact hpot1
        · (apply ent; (repeat constructor); done)
      · skip
        have hne : js.length = 2 * out.length := by omega
        refine w_skip (a_then (w_region ?_))
        refine l_yield (y_move rfl) rfl ?_
        refine l_yield (y_assign rfl) rfl ?_
        refine l_nil (a_block ?_)
        refine wa_heap (ent_head (p := sl (some ⟨g2, 0, none⟩) c2 38 1 js.length (idC (out ++ js.drop out.length))) (p' := sl (some ⟨g2, 0, none⟩) c2 38 1 out.length (idC out)) (by ((repeat constructor); done)) (sl_cut (by omega) (by rw [Nat.mul_one, idC_append]; exact List.take_left' (idC_len _)) (by simp))) ?_
        refine a_round (ι := CoG) (j := ⟨M ++ N, out, vs⟩) ⟨?_, ?_, hso, ?_, ?_⟩ (by show out.length < js.length; omega) ⟨rfl, rfl, trivial⟩ ?_
        · show 1 ≤ out.length; omega
        · show out.length < 1000000; omega
        · show vs.flatten = _
          rw [hvf, ← hfl, List.take_of_length_le (by omega)]
        · show (M ++ N).length + out.length * _ ≤ _
          rw [show js.length - out.length = out.length by omega] at hpot1
          exact hpot1
        · (apply ent; (repeat constructor); done)
  · skip
    obtain ⟨x, rfl⟩ : ∃ x, js = [x] := List.length_eq_one_iff.1 (by omega)
    obtain ⟨t, rfl, hsx⟩ : ∃ t, us = [t] ∧ Sn (rls (Es ++ M)) t x := by
      have := hs.length
      obtain ⟨t, rfl⟩ : ∃ t, us = [t] := List.length_eq_one_iff.1 (by simpa using this.symm)
      obtain ⟨t', h1, h2⟩ := hs.get (k := 0) (x := x) rfl
      simp at h1
      subst h1
      exact ⟨_, rfl, h2⟩
    have f0 : (idC [x])[(0 : Int).toNat]? = some (.int .i64 (x : Nat)) := rfl
    have hl1 : (1 : Int) ≤ (([x].length : Nat) : Int) := by simp
    refine w_exit (a_then_exit (a_then_exit (a_block_exit (a_then (w_seq (w_region ?_))))))
    refine l_yield (y_move rfl) rfl ?_
    apply l_yield
    · (first | exact y_indexAddr1 rfl rfl (hE.t rfl) (by omega) (by omega) | exact y_indexAddr rfl rfl (hE.t rfl) (by omega) (by omega))
    · rfl
    apply l_yield
    · (apply y_load rfl (hE.t rfl) rfl; (repeat (first | rfl | assumption | constructor)); done)
    · rfl
    refine l_yield (y_assign rfl) rfl ?_
    refine l_yield (y_assign rfl) rfl ?_
    refine l_nil (a_then (w_ret ?_))
    apply a_ret
    · rfl
    · (apply Rs.tmp rfl; apply Rs.tmp rfl; exact Rs.nil)
    · refine ⟨M, x, rfl, by omega, ?_, rfl⟩
      rw [← hfl]
      simpa using hsx
    · (apply ent; (repeat constructor); done)
theorem ct_Concat0 (hE : Seat E) (hB : Base E.w0) : Ct E 25 [.pointer (some ⟨pp, 0, none⟩), .slice none 0 0] [cells pp [.pointer (some ⟨s, 0, none⟩), .pointer (some ⟨tb, 0, none⟩)] 78, tabP tb s (rls Es), storeP s most Es] (fun v Q => v = .tuple #[.int .i64 0, .nilIface] ∧ Q = [cells pp [.pointer (some ⟨s, 0, none⟩), .pointer (some ⟨tb, 0, none⟩)] 78, tabP tb s (rls Es), storeP s most Es]) := by
  refine fn_enter (hE.fn Tryd.func25) rfl rfl rfl (fun R => ?_)
  simp only [argsL, List.cons_append, List.nil_append]
  refine w_seq (w_region ?_)
  refine l_yield (y_assign rfl) rfl ?_
  refine l_yield (y_assign rfl) rfl ?_
  refine l_nil (a_then (w_seq (w_seq (w_region ?_))))
  refine l_yield (y_move rfl) rfl ?_
  apply l_loud (by kernel_rfl) rfl
  apply ld_call (ct_Store hE) rfl (hE.f (by kernel_rfl))
  · ((repeat constructor); done)
  rintro _ _ ⟨rfl, rfl⟩
  simp only [List.cons_append, List.nil_append]
  apply l_yield
  · (first | exact y_eq_ptr rfl (hE.t rfl) | exact y_eq_nil rfl (hE.t rfl))
  · rfl
  refine l_nil (a_then ?_)
  refine w_cond_f rfl ?_
  refine w_skip (a_then (w_seq (w_seq (w_region ?_))))
  refine l_yield (y_move rfl) rfl ?_
  refine l_yield (y_len_slice rfl (hE.t rfl)) rfl ?_
  refine l_yield (y_move rfl) rfl ?_
  refine l_nil (a_then (w_block ?_))
  refine w_rounds 1 ?_
  refine r_succ ?_
  refine w_seq (w_region ?_)
  refine l_yield (y_lt rfl rfl) rfl ?_
  refine l_nil (a_then (w_seq ?_))
  refine w_cond_f rfl ?_
  refine w_exit (a_then_exit (a_then_exit (a_block_exit (a_then (w_seq (w_region ?_))))))
  refine l_yield (y_assign rfl) rfl ?_
  refine l_nil (a_then (w_seq (w_seq (w_region ?_))))
  refine l_yield (y_move rfl) rfl ?_
  refine l_yield (y_len_slice rfl (hE.t rfl)) rfl ?_
  refine l_yield (y_move rfl) rfl ?_
  refine l_nil (a_then (w_block ?_))
  refine w_rounds 1 ?_
  refine r_succ ?_
  refine w_seq (w_region ?_)
  refine l_yield (y_lt rfl rfl) rfl ?_
  refine l_nil (a_then (w_seq ?_))
  refine w_cond_f rfl ?_
  refine w_exit (a_then_exit (a_then_exit (a_block_exit (a_then (w_seq (w_seq (w_region ?_)))))))
  refine l_yield (y_move rfl) rfl ?_
  refine l_yield (y_len_slice rfl (hE.t rfl)) rfl ?_
  refine l_yield (y_eq rfl rfl) rfl ?_
  refine l_nil (a_then ?_)
  refine w_cond_t rfl ?_
  refine w_seq (w_region ?_)
  refine l_yield (y_assign rfl) rfl ?_
  refine l_yield (y_assign rfl) rfl ?_
  refine l_nil (a_then (w_ret (a_then_ret ?_)))
  apply a_ret
  · rfl
  · (apply Rs.tmp rfl; apply Rs.tmp rfl; exact Rs.nil)
  · exact ⟨rfl, rfl⟩
  · (apply ent; (repeat constructor); done)
end Go.Proofs.YtekhbjlplfbdkaaDoor
/- evergreenlaw23.SeamParts. -/
namespace Go.Proofs.YtekhbjlplfbdkaaDoor
open Go Go.RowKit Sl Eg
set_option maxRecDepth 10000
variable {E : Env}
/-- A slice of numbers of the memory that was there before. -/
def OldI (w0 : World) (a : Option Addr) (k : IntKind) (zs : List Int) : Prop := zs ≠ [] → ∃ g o, a = some ⟨g, o, none⟩ ∧ ∀ (i : Nat) (z : Int), zs[i]? = some z → w0.cell? ⟨g, o + i, none⟩ = some (.int k z)
structure PaU where
  k : Nat
  M : List Ent
  ids : List Nat
  ts : List (List UInt8)
  rest : List UInt8
  p : Option Addr
  c : Nat
theorem ct_SeamParts (hE : Seat E) (hB : Base E.w0) {t : List UInt8} {ap : Option Addr} {ac : Nat} {zs : List Int} (hz : OldI E.w0 ap .u16 zs) (hz2 : ∀ z ∈ zs, 0 ≤ z ∧ z < 65536) (hzl : zs.length ≤ 140737488355328) : Ct E 5 [.string ⟨⟨t⟩⟩, .slice ap zs.length ac] [] (fun v Q => v = .bool true ∧ Q = []) := by
  refine fn_enter (hE.fn Tryd.func5) rfl rfl rfl (fun R => ?_)
  simp only [argsL, List.cons_append, List.nil_append]
  refine w_seq (w_region ?_)
  refine l_yield (y_assign rfl) rfl ?_
  refine l_nil (a_then (w_seq (w_region ?_)))
  apply l_loud (by kernel_rfl) rfl
  apply ld_call (ct_Parser23 hE hB) rfl (hE.f (by kernel_rfl))
  · ((repeat constructor); done)
  rintro _ _ ⟨pp, s, tb, M, rfl, hM, rfl⟩
  simp only [List.cons_append, List.nil_append]
  refine l_yield (y_move rfl) rfl ?_
  refine l_yield (y_extract rfl rfl) rfl ?_
  refine l_yield (y_extract rfl rfl) rfl ?_
  refine l_yield (y_assign rfl) rfl ?_
  refine l_yield (y_assign rfl) rfl ?_
  refine l_nil (a_then (w_seq (w_seq (w_region ?_))))
  refine l_yield (y_move rfl) rfl ?_
  refine l_yield (y_not rfl) rfl ?_
  refine l_nil (a_then ?_)
  refine w_cond_f rfl ?_
  refine w_skip (a_then (w_seq (w_region ?_)))
  refine l_yield (y_move rfl) rfl ?_
  apply l_loud (by kernel_rfl) rfl
  apply ld_call (ct_cut23 (m := 600) hE) rfl (hE.f (by kernel_rfl))
  · ((repeat constructor); done)
  rintro _ _ ⟨rfl, rfl⟩
  simp only [List.cons_append, List.nil_append]
  have hTl : (t.take 600).length ≤ 600 := by rw [List.length_take]; omega
  generalize t.take 600 = T at hTl ⊢
  refine l_yield (y_assign rfl) rfl ?_
  refine l_nil (a_then (w_seq (w_region ?_)))
  refine l_yield (y_move rfl) rfl ?_
  refine l_yield (y_move rfl) rfl ?_
  apply l_loud (by kernel_rfl) rfl
  refine ld_bytes rfl (hE.t rfl) (hE.t rfl) (hE.t rfl) (fun g1 c1 => ?_)
  skip
  apply l_loud (by kernel_rfl) rfl
  apply ld_call (ct_Of (Es := M) (most := 1048576) (bs := T) hE hB (by omega) (by omega)) rfl (hE.f (by kernel_rfl))
  · ((repeat constructor); done)
  rintro _ _ ⟨M1, x, rfl, hM1, tx1, gx, sx, rfl⟩
  simp only [List.cons_append, List.nil_append]
  have hx : Sn (rls (M ++ M1)) T x := ⟨sx, tx1, gx⟩
  refine l_yield (y_move rfl) rfl ?_
  refine l_yield (y_extract rfl rfl) rfl ?_
  refine l_yield (y_extract rfl rfl) rfl ?_
  refine l_yield (y_assign rfl) rfl ?_
  refine l_yield (y_assign rfl) rfl ?_
  refine l_nil (a_then (w_seq (w_region ?_)))
  refine l_yield (y_assign rfl) rfl ?_
  refine l_nil (a_then (w_seq (w_region ?_)))
  refine l_yield (y_move rfl) rfl ?_
  refine l_yield (y_assign rfl) rfl ?_
  refine l_nil (a_then (w_seq (w_seq (w_region ?_))))
  refine l_yield (y_assign rfl) rfl ?_
  refine l_nil (a_then (w_block ?_))
  refine w_heap (ent_nil (t := 38) (sz := 1)) ?_
  skip
  refine w_loop (fun q : PaU => [(1, .slice ap zs.length ac), (5, .pointer (some ⟨pp, 0, none⟩)), (7, .int .i64 (x : Nat)), (8, .nilIface), (9, .slice q.p q.ids.length q.c), (10, .string ⟨⟨q.rest⟩⟩), (11, .int .i64 (q.k : Nat))]) (fun q => [cells pp [.pointer (some ⟨s, 0, none⟩), .pointer (some ⟨tb, 0, none⟩)] 78, tabP tb s (rls (M ++ M1 ++ q.M)), storeP s 1048576 (M ++ M1 ++ q.M), sl q.p q.c 38 1 q.ids.length (idC q.ids), R]) (fun q => 30 - q.k) (fun q => q.k ≤ zs.length ∧ q.k ≤ 30 ∧ q.ids.length = q.k ∧ Sns (rls (M ++ M1 ++ q.M)) q.ts q.ids ∧ q.ts.flatten ++ q.rest = T ∧ q.M.length ≤ 2 * q.ts.flatten.length) ⟨0, [], [], [], T, none, 0⟩ ⟨Nat.zero_le _, Nat.zero_le _, rfl, .nil, rfl, Nat.zero_le _⟩ ⟨rfl, rfl, rfl, rfl, rfl, rfl, rfl, trivial⟩ ?_ ?_
  · rw [List.append_nil]
    (apply ent; (repeat constructor); done)
  rintro ⟨k, N, ids, ts, rest, p, c⟩ ⟨hk1, hk2, hil0, hsn, hT, hN⟩
  simp only at hk1 hk2 hil0 hsn hT hN ⊢
  have hlT : ts.flatten.length + rest.length = T.length := by rw [← hT, List.length_append]
  have hr6 : rest.length ≤ 600 := by omega
  have hme : (M ++ M1 ++ N).length = M.length + M1.length + N.length := by simp; omega
  have q1 : (M ++ M1 ++ N).length + 2 * rest.length ≤ 1048576 := by omega
  skip
  refine w_seq (w_seq (w_region ?_))
  refine l_yield (y_move rfl) rfl ?_
  refine l_yield (y_move rfl) rfl ?_
  refine l_yield (y_len_slice rfl (hE.t rfl)) rfl ?_
  refine l_yield (y_lt rfl rfl) rfl ?_
  refine l_yield (y_move rfl) rfl ?_
  refine l_split 41 rfl (fun h1 => ?_) (fun h1 => ?_)
  · skip
    have hkz : k < zs.length := by omega
    obtain ⟨z, hzk⟩ : ∃ z, zs[k]? = some z := ⟨_, List.getElem?_eq_getElem hkz⟩
    obtain ⟨z0, z1⟩ := hz2 z (List.mem_of_getElem? hzk)
    obtain ⟨ga, oa, rfl, hcell⟩ := hz (by rintro rfl; simp at hkz)
    have f0 := hcell k z hzk
    have f1 : E.w0.cell? ⟨ga, oa + ((k : Nat) : Int).toNat * 1, none⟩ = some (.int .u16 z) := by rw [Int.toNat_natCast, Nat.mul_one]; exact f0
    have f2 : E.w0.cell? ⟨ga, oa + ((k : Nat) : Int).toNat, none⟩ = some (.int .u16 z) := f0
    refine l_on rfl rfl ?_
    refine l_yield (y_move rfl) rfl ?_
    refine l_on rfl rfl ?_
    refine l_yield (y_lt rfl rfl) rfl ?_
    apply l_yield
    · (first | exact y_pick_t rfl rfl | exact y_pick_f rfl rfl)
    · rfl
    refine l_nil (a_then ?_)
    refine w_cond_d rfl (fun h2 => ?_) (fun h2 => ?_)
    · skip
      have szr : (⟨⟨rest⟩⟩ : ByteArray).size = rest.length := rfl
      obtain ⟨n, hn, hnv⟩ : ∃ n : Nat, n ≤ rest.length ∧ z % ((((⟨⟨rest⟩⟩ : ByteArray).size : Nat) : Int) + 1) = (n : Nat) := by
        obtain ⟨zn, rfl⟩ := Int.eq_ofNat_of_zero_le z0
        refine ⟨zn % (rest.length + 1), Nat.le_of_lt_succ (Nat.mod_lt zn (Nat.succ_pos rest.length)), ?_⟩
        rw [szr, show ((rest.length : Nat) : Int) + 1 = ((rest.length + 1 : Nat) : Int) by omega]
        exact (Int.natCast_emod _ _).symm
      refine w_skip (a_then (w_seq (w_block (w_seq (w_region ?_)))))
      refine l_yield (y_move rfl) rfl ?_
      refine l_yield (y_move rfl) rfl ?_
      apply l_yield
      · (first | exact y_indexAddr1 rfl rfl (hE.t rfl) (by omega) (by omega) | exact y_indexAddr rfl rfl (hE.t rfl) (by omega) (by omega))
      · rfl
      apply l_yield
      · (first | (apply y_load rfl (hE.t rfl) rfl; (repeat (first | rfl | assumption | constructor)); done) | exact y_load_old rfl (hE.t rfl) rfl (by assumption) | (apply y_load_ro rfl (hE.t rfl) rfl; (focus ((repeat constructor); done)); (focus assumption)) | (apply y_load_q rfl (hE.t rfl) rfl (by assumption); (focus ((repeat constructor); done)); (first | ((focus exact f0); (focus omega)) | ((focus exact f1); (focus omega)) | ((focus assumption); (focus omega)))))
      · rfl
      refine l_yield (y_conv rfl (hE.t rfl) (hE.t rfl) (by first | exact wrap_in (by omega) (by omega) | exact wrap_uu (by omega) (by omega))) rfl ?_
      refine l_yield (y_move rfl) rfl ?_
      refine l_yield (y_len_str rfl (hE.t rfl)) rfl ?_
      refine l_yield (y_add rfl rfl (by omega) (by omega)) rfl ?_
      refine l_yield (y_rem rfl rfl (by omega) (by omega)) rfl ?_
      refine l_yield (y_assign rfl) rfl ?_
      refine l_nil (a_then ?_)
      refine w_eq 12 (.int .i64 (n : Nat)) rfl (int_eq hnv) ?_
      refine w_seq (w_region ?_)
      refine l_yield (y_move rfl) rfl ?_
      refine l_yield (y_move rfl) rfl ?_
      refine l_yield (y_move rfl) rfl ?_
      refine l_yield (y_slice_str rfl (hE.t rfl) rfl ⟨_, rfl⟩ (by omega) (by omega)) rfl ?_
      rw [extract_mk rest _ _ (by omega)]
      simp only [Int.toNat_natCast, List.drop_zero]
      apply l_loud (by kernel_rfl) rfl
      refine ld_bytes rfl (hE.t rfl) (hE.t rfl) (hE.t rfl) (fun g2 c2 => ?_)
      skip
      have htk : (rest.take n).length = n := by rw [List.length_take]; omega
      have q2 : (M ++ M1 ++ N).length + 2 * (rest.take n).length ≤ 1048576 := by omega
      have q3 : (rest.take n).length ≤ 65536 := by omega
      apply l_loud (by kernel_rfl) rfl
      apply ld_call (ct_Of (Es := M ++ M1 ++ N) (most := 1048576) (bs := rest.take n) hE hB q3 q2) rfl (hE.f (by kernel_rfl))
      · ((repeat constructor); done)
      rintro _ _ ⟨M2, y, rfl, hM2, ty1, gy, sy, rfl⟩
      rw [List.append_assoc (M ++ M1)] at ty1 gy sy ⊢
      simp only [List.cons_append, List.nil_append]
      have hy : Sn (rls (M ++ M1 ++ (N ++ M2))) (rest.take n) y := ⟨sy, ty1, gy⟩
      have hall : Sns (rls (M ++ M1 ++ (N ++ M2))) (ts ++ [rest.take n]) (ids ++ [y]) := by
        refine Sns.append ?_ (.one hy)
        have := hsn.up (M := M2)
        rwa [List.append_assoc (M ++ M1)] at this
      have hil : (ids ++ [y]).length = ids.length + 1 := by simp
      refine l_yield (y_move rfl) rfl ?_
      refine l_yield (y_extract rfl rfl) rfl ?_
      refine l_yield (y_extract rfl rfl) rfl ?_
      refine l_yield (y_assign rfl) rfl ?_
      refine l_yield (y_assign rfl) rfl ?_
      refine l_nil (a_then (w_seq (w_seq (w_region ?_))))
      refine l_yield (y_move rfl) rfl ?_
      apply l_yield
      · (first | exact y_ok_ne rfl (hE.t rfl) | exact y_err_ne rfl (hE.t rfl))
      · rfl
      refine l_nil (a_then ?_)
      refine w_cond_f rfl ?_
      refine w_skip (a_then ?_)
      refine w_held ([]) ?_ ?_
      · (apply ent; (repeat constructor); done)
      apply d_take 0 rfl
      · exact y_move rfl
      · with_reducible (repeat (first | exact calm_body | apply calm_then | apply calm_block))
      · kernel_rfl
      · rfl
      apply d_take 1 rfl
      · exact y_move rfl
      · with_reducible (repeat (first | exact calm_body | apply calm_then | apply calm_block))
      · kernel_rfl
      · rfl
      apply d_take 4 rfl
      · exact y_move rfl
      · with_reducible (repeat (first | exact calm_body | apply calm_then | apply calm_block))
      · kernel_rfl
      · rfl
      apply d_take 5 rfl
      · exact y_move rfl
      · with_reducible (repeat (first | exact calm_body | apply calm_then | apply calm_block))
      · kernel_rfl
      · rfl
      apply d_take 6 rfl
      · exact y_slice_str rfl (hE.t rfl) ⟨_, rfl⟩ rfl (by omega) (by omega)
      · with_reducible (repeat (first | exact calm_body | apply calm_then | apply calm_block))
      · kernel_rfl
      · rfl
      apply d_loud 2 rfl (by kernel_rfl) rfl
      refine ld_buildSlice (hE.t rfl) (hE.t rfl) rfl rfl rfl (fun b69 => ?_)
      refine ⟨by (apply ent; (repeat constructor); done), ?_⟩
      apply d_loud 3 rfl (by kernel_rfl) rfl
      apply ld_append (hE.t rfl) (hE.t rfl) rfl rfl rfl
      · ((repeat constructor); done)
      · ((repeat constructor); done)
      · rfl
      · rfl
      · omega
      · omega
      · (unfold maxLen; omega)
      intro g70 c70 n70 x70 hn70 hx70
      refine ⟨by (apply ent; (repeat constructor); done), ?_⟩
      apply d_take 7 rfl
      · exact y_assign rfl
      · with_reducible (repeat (first | exact calm_body | apply calm_then | apply calm_block))
      · kernel_rfl
      · rfl
      apply d_take 8 rfl
      · exact y_assign rfl
      · with_reducible (repeat (first | exact calm_body | apply calm_then | apply calm_block))
      · kernel_rfl
      · rfl
      refine d_nil (by kernel_rfl) ?_
      refine a_block (a_then (w_region ?_))
      refine l_yield (y_move rfl) rfl ?_
      refine l_yield (y_add rfl rfl (by omega) (by omega)) rfl ?_
      refine l_yield (y_assign rfl) rfl ?_
      refine l_nil ?_
      obtain rfl : n70 = (ids ++ [y]).length := by rw [hn70, hil]
      obtain rfl : x70 = idC (ids ++ [y]) := by rw [hx70, idC_append]; rfl
      have est : (Value.string ((⟨⟨rest⟩⟩ : ByteArray).extract n (⟨⟨rest⟩⟩ : ByteArray).size) : Value) = .string ⟨⟨rest.drop n⟩⟩ := by
        rw [extract_mk rest _ _ (Nat.le_of_eq szr), szr, List.take_length]
      refine wa_eq 10 (.string ⟨⟨rest.drop n⟩⟩) rfl est ?_
      refine wa_eq 11 (.int .i64 ((k + 1 : Nat) : Int)) rfl (int_eq (by omega)) ?_
      refine a_round (ι := PaU) (j := ⟨k + 1, N ++ M2, ids ++ [y], ts ++ [rest.take n], rest.drop n, some ⟨g70, 0, none⟩, c70⟩) ⟨hkz, by show k + 1 ≤ 30; omega, by show (ids ++ [y]).length = k + 1; omega, hall, ?_, ?_⟩ (by show 30 - (k + 1) < 30 - k; omega) ⟨rfl, rfl, rfl, rfl, rfl, rfl, rfl, trivial⟩ ?_
      · show (ts ++ [rest.take n]).flatten ++ rest.drop n = T
        rw [← hT]; simp
      · show (N ++ M2).length ≤ 2 * (ts ++ [rest.take n]).flatten.length
        rw [List.flatten_append, List.length_append, List.length_append]
        simp only [List.flatten_cons, List.flatten_nil, List.append_nil]
        omega
      · (apply ent; (repeat constructor); done)
    · skip
      refine w_exit (a_then_exit (a_then_exit (a_block_exit (a_then (w_seq (w_region ?_))))))
      refine l_yield (y_move rfl) rfl ?_
      refine l_yield (y_move rfl) rfl ?_
      apply l_loud (by kernel_rfl) rfl
      refine ld_bytes rfl (hE.t rfl) (hE.t rfl) (hE.t rfl) (fun g3 c3 => ?_)
      skip
      apply l_loud (by kernel_rfl) rfl
      apply ld_call (ct_Of (Es := M ++ M1 ++ N) (most := 1048576) (bs := rest) hE hB (by omega) q1) rfl (hE.f (by kernel_rfl))
      · ((repeat constructor); done)
      rintro _ _ ⟨M2, y, rfl, hM2, ty1, gy, sy, rfl⟩
      simp only [List.cons_append, List.nil_append]
      have hy : Sn (rls (M ++ M1 ++ N ++ M2)) rest y := ⟨sy, ty1, gy⟩
      have hall : Sns (rls (M ++ M1 ++ N ++ M2)) (ts ++ [rest]) (ids ++ [y]) := hsn.up.append (.one hy)
      have eT : (ts ++ [rest]).flatten = T := by rw [← hT]; simp
      have hil : (ids ++ [y]).length = ids.length + 1 := by simp
      refine l_yield (y_move rfl) rfl ?_
      refine l_yield (y_extract rfl rfl) rfl ?_
      refine l_yield (y_extract rfl rfl) rfl ?_
      refine l_yield (y_assign rfl) rfl ?_
      refine l_yield (y_assign rfl) rfl ?_
      refine l_nil (a_then (w_seq (w_region ?_)))
      refine l_yield (y_move rfl) rfl ?_
      refine l_yield (y_move rfl) rfl ?_
      refine l_yield (y_move rfl) rfl ?_
      apply l_loud (by kernel_rfl) rfl
      refine ld_buildSlice (hE.t rfl) (hE.t rfl) rfl rfl rfl (fun b85 => ?_)
      apply l_loud (by kernel_rfl) rfl
      apply ld_append (hE.t rfl) (hE.t rfl) rfl rfl rfl
      · ((repeat constructor); done)
      · ((repeat constructor); done)
      · rfl
      · rfl
      · omega
      · omega
      · (unfold maxLen; omega)
      intro g86 c86 n86 x86 hn86 hx86
      obtain rfl : n86 = (ids ++ [y]).length := by rw [hn86, hil]
      obtain rfl : x86 = idC (ids ++ [y]) := by rw [hx86, idC_append]; rfl
      have q2 : (M ++ M1 ++ N ++ M2).length + (ids ++ [y]).length * (ts ++ [rest]).flatten.length ≤ 1048576 := by
        rw [eT, hil]
        have : (ids.length + 1) * T.length ≤ 31 * 600 := Nat.mul_le_mul (by omega) hTl
        simp only [List.length_append] at hM2 q1 ⊢
        omega
      have q3 : 0 < (ids ++ [y]).length := by omega
      have q4 : (ids ++ [y]).length < 1000000 := by omega
      have q5 : (ts ++ [rest]).flatten.length ≤ 1000000000 := by rw [eT]; omega
      apply l_loud (by kernel_rfl) rfl
      apply ld_call (ct_Concat hE hB hall q3 q4 q5 q2) rfl (hE.f (by kernel_rfl))
      · ((repeat constructor); done)
      rintro _ _ ⟨M3, w, rfl, hM3, hw3, rfl⟩
      rw [eT] at hw3
      simp only [List.cons_append, List.nil_append]
      refine l_yield (y_move rfl) rfl ?_
      refine l_yield (y_extract rfl rfl) rfl ?_
      refine l_yield (y_extract rfl rfl) rfl ?_
      refine l_yield (y_assign rfl) rfl ?_
      refine l_yield (y_assign rfl) rfl ?_
      refine l_nil (a_then (w_seq (w_region ?_)))
      refine l_yield (y_move rfl) rfl ?_
      apply l_loud (by kernel_rfl) rfl
      apply ld_call (ct_Concat0 hE hB) rfl (hE.f (by kernel_rfl))
      · ((repeat constructor); done)
      rintro _ _ ⟨rfl, rfl⟩
      simp only [List.cons_append, List.nil_append]
      refine l_say (p := storeP s 1048576 (M ++ M1 ++ N ++ M2 ++ M3)) (by ((repeat constructor); done)) (fun _ h => storeP_says h) ?_
      rintro ⟨hwf, -, -, -⟩
      obtain rfl : w = x := hw3.fn hwf (((hx.up (M := N)).up (M := M2)).up (M := M3))
      refine l_yield (y_move rfl) rfl ?_
      refine l_yield (y_extract rfl rfl) rfl ?_
      refine l_yield (y_extract rfl rfl) rfl ?_
      refine l_yield (y_assign rfl) rfl ?_
      refine l_yield (y_assign rfl) rfl ?_
      refine l_nil (a_then (w_seq (w_region ?_)))
      refine l_yield (y_move rfl) rfl ?_
      apply l_yield
      · (first | exact y_ok_eq rfl (hE.t rfl) | exact y_err_eq rfl (hE.t rfl))
      · rfl
      refine l_yield (y_move rfl) rfl ?_
      skip
      refine l_on rfl rfl ?_
      refine l_yield (y_move rfl) rfl ?_
      refine l_on rfl rfl ?_
      apply l_yield
      · (first | exact y_ok_eq rfl (hE.t rfl) | exact y_err_eq rfl (hE.t rfl))
      · rfl
      apply l_yield
      · (first | exact y_pick_t rfl rfl | exact y_pick_f rfl rfl)
      · rfl
      refine l_yield (y_move rfl) rfl ?_
      skip
      refine l_on rfl rfl ?_
      refine l_yield (y_move rfl) rfl ?_
      refine l_on rfl rfl ?_
      apply l_yield
      · (first | exact y_ok_eq rfl (hE.t rfl) | exact y_err_eq rfl (hE.t rfl))
      · rfl
      apply l_yield
      · (first | exact y_pick_t rfl rfl | exact y_pick_f rfl rfl)
      · rfl
      refine l_yield (y_move rfl) rfl ?_
      skip
      refine l_on rfl rfl ?_
      refine l_yield (y_move rfl) rfl ?_
      refine l_on rfl rfl ?_
      apply l_yield
      · (first | exact y_ok_eq rfl (hE.t rfl) | exact y_err_eq rfl (hE.t rfl))
      · rfl
      apply l_yield
      · (first | exact y_pick_t rfl rfl | exact y_pick_f rfl rfl)
      · rfl
      refine l_yield (y_move rfl) rfl ?_
      skip
      refine l_on rfl rfl ?_
      refine l_yield (y_move rfl) rfl ?_
      refine l_on rfl rfl ?_
      refine l_yield (y_move rfl) rfl ?_
      refine l_on rfl rfl ?_
      refine l_yield (y_eq rfl rfl) rfl ?_
      apply l_yield
      · (first | exact y_pick_t rfl rfl | exact y_pick_f rfl rfl)
      · rfl
      refine l_yield (y_move rfl) rfl ?_
      refine l_split 114 rfl (fun h9 => ?_) (fun h9 => ?_)
      · skip
        refine l_on rfl rfl ?_
        refine l_yield (y_move rfl) rfl ?_
        refine l_on rfl rfl ?_
        refine l_yield (y_eq rfl rfl) rfl ?_
        apply l_yield
        · (first | exact y_pick_t rfl rfl | exact y_pick_f rfl rfl)
        · rfl
        refine l_yield (y_assign rfl) rfl ?_
        refine l_nil (a_then (w_ret ?_))
        apply a_ret
        · rfl
        · (apply Rs.tmp rfl; exact Rs.nil)
        · exact ⟨by simp [one], rfl⟩
        · (apply ent; (repeat constructor); done)
      · exact absurd rfl h9
  · skip
    refine l_off rfl rfl rfl rfl (l_off rfl rfl rfl rfl ?_)
    apply l_yield
    · (first | exact y_pick_t rfl rfl | exact y_pick_f rfl rfl)
    · rfl
    refine l_nil (a_then ?_)
    refine w_cond_f rfl ?_
    refine w_exit (a_then_exit (a_then_exit (a_block_exit (a_then (w_seq (w_region ?_))))))
    refine l_yield (y_move rfl) rfl ?_
    refine l_yield (y_move rfl) rfl ?_
    apply l_loud (by kernel_rfl) rfl
    refine ld_bytes rfl (hE.t rfl) (hE.t rfl) (hE.t rfl) (fun g3 c3 => ?_)
    skip
    apply l_loud (by kernel_rfl) rfl
    apply ld_call (ct_Of (Es := M ++ M1 ++ N) (most := 1048576) (bs := rest) hE hB (by omega) q1) rfl (hE.f (by kernel_rfl))
    · ((repeat constructor); done)
    rintro _ _ ⟨M2, y, rfl, hM2, ty1, gy, sy, rfl⟩
    simp only [List.cons_append, List.nil_append]
    have hy : Sn (rls (M ++ M1 ++ N ++ M2)) rest y := ⟨sy, ty1, gy⟩
    have hall : Sns (rls (M ++ M1 ++ N ++ M2)) (ts ++ [rest]) (ids ++ [y]) := hsn.up.append (.one hy)
    have eT : (ts ++ [rest]).flatten = T := by rw [← hT]; simp
    have hil : (ids ++ [y]).length = ids.length + 1 := by simp
    refine l_yield (y_move rfl) rfl ?_
    refine l_yield (y_extract rfl rfl) rfl ?_
    refine l_yield (y_extract rfl rfl) rfl ?_
    refine l_yield (y_assign rfl) rfl ?_
    refine l_yield (y_assign rfl) rfl ?_
    refine l_nil (a_then (w_seq (w_region ?_)))
    refine l_yield (y_move rfl) rfl ?_
    refine l_yield (y_move rfl) rfl ?_
    refine l_yield (y_move rfl) rfl ?_
    apply l_loud (by kernel_rfl) rfl
    refine ld_buildSlice (hE.t rfl) (hE.t rfl) rfl rfl rfl (fun b85 => ?_)
    apply l_loud (by kernel_rfl) rfl
    apply ld_append (hE.t rfl) (hE.t rfl) rfl rfl rfl
    · ((repeat constructor); done)
    · ((repeat constructor); done)
    · rfl
    · rfl
    · omega
    · omega
    · (unfold maxLen; omega)
    intro g86 c86 n86 x86 hn86 hx86
    obtain rfl : n86 = (ids ++ [y]).length := by rw [hn86, hil]
    obtain rfl : x86 = idC (ids ++ [y]) := by rw [hx86, idC_append]; rfl
    have q2 : (M ++ M1 ++ N ++ M2).length + (ids ++ [y]).length * (ts ++ [rest]).flatten.length ≤ 1048576 := by
      rw [eT, hil]
      have : (ids.length + 1) * T.length ≤ 31 * 600 := Nat.mul_le_mul (by omega) hTl
      simp only [List.length_append] at hM2 q1 ⊢
      omega
    have q3 : 0 < (ids ++ [y]).length := by omega
    have q4 : (ids ++ [y]).length < 1000000 := by omega
    have q5 : (ts ++ [rest]).flatten.length ≤ 1000000000 := by rw [eT]; omega
    apply l_loud (by kernel_rfl) rfl
    apply ld_call (ct_Concat hE hB hall q3 q4 q5 q2) rfl (hE.f (by kernel_rfl))
    · ((repeat constructor); done)
    rintro _ _ ⟨M3, w, rfl, hM3, hw3, rfl⟩
    rw [eT] at hw3
    simp only [List.cons_append, List.nil_append]
    refine l_yield (y_move rfl) rfl ?_
    refine l_yield (y_extract rfl rfl) rfl ?_
    refine l_yield (y_extract rfl rfl) rfl ?_
    refine l_yield (y_assign rfl) rfl ?_
    refine l_yield (y_assign rfl) rfl ?_
    refine l_nil (a_then (w_seq (w_region ?_)))
    refine l_yield (y_move rfl) rfl ?_
    apply l_loud (by kernel_rfl) rfl
    apply ld_call (ct_Concat0 hE hB) rfl (hE.f (by kernel_rfl))
    · ((repeat constructor); done)
    rintro _ _ ⟨rfl, rfl⟩
    simp only [List.cons_append, List.nil_append]
    refine l_say (p := storeP s 1048576 (M ++ M1 ++ N ++ M2 ++ M3)) (by ((repeat constructor); done)) (fun _ h => storeP_says h) ?_
    rintro ⟨hwf, -, -, -⟩
    obtain rfl : w = x := hw3.fn hwf (((hx.up (M := N)).up (M := M2)).up (M := M3))
    refine l_yield (y_move rfl) rfl ?_
    refine l_yield (y_extract rfl rfl) rfl ?_
    refine l_yield (y_extract rfl rfl) rfl ?_
    refine l_yield (y_assign rfl) rfl ?_
    refine l_yield (y_assign rfl) rfl ?_
    refine l_nil (a_then (w_seq (w_region ?_)))
    refine l_yield (y_move rfl) rfl ?_
    apply l_yield
    · (first | exact y_ok_eq rfl (hE.t rfl) | exact y_err_eq rfl (hE.t rfl))
    · rfl
    refine l_yield (y_move rfl) rfl ?_
    skip
    refine l_on rfl rfl ?_
    refine l_yield (y_move rfl) rfl ?_
    refine l_on rfl rfl ?_
    apply l_yield
    · (first | exact y_ok_eq rfl (hE.t rfl) | exact y_err_eq rfl (hE.t rfl))
    · rfl
    apply l_yield
    · (first | exact y_pick_t rfl rfl | exact y_pick_f rfl rfl)
    · rfl
    refine l_yield (y_move rfl) rfl ?_
    skip
    refine l_on rfl rfl ?_
    refine l_yield (y_move rfl) rfl ?_
    refine l_on rfl rfl ?_
    apply l_yield
    · (first | exact y_ok_eq rfl (hE.t rfl) | exact y_err_eq rfl (hE.t rfl))
    · rfl
    apply l_yield
    · (first | exact y_pick_t rfl rfl | exact y_pick_f rfl rfl)
    · rfl
    refine l_yield (y_move rfl) rfl ?_
    skip
    refine l_on rfl rfl ?_
    refine l_yield (y_move rfl) rfl ?_
    refine l_on rfl rfl ?_
    apply l_yield
    · (first | exact y_ok_eq rfl (hE.t rfl) | exact y_err_eq rfl (hE.t rfl))
    · rfl
    apply l_yield
    · (first | exact y_pick_t rfl rfl | exact y_pick_f rfl rfl)
    · rfl
    refine l_yield (y_move rfl) rfl ?_
    skip
    refine l_on rfl rfl ?_
    refine l_yield (y_move rfl) rfl ?_
    refine l_on rfl rfl ?_
    refine l_yield (y_move rfl) rfl ?_
    refine l_on rfl rfl ?_
    refine l_yield (y_eq rfl rfl) rfl ?_
    apply l_yield
    · (first | exact y_pick_t rfl rfl | exact y_pick_f rfl rfl)
    · rfl
    refine l_yield (y_move rfl) rfl ?_
    refine l_split 114 rfl (fun h9 => ?_) (fun h9 => ?_)
    · skip
      refine l_on rfl rfl ?_
      refine l_yield (y_move rfl) rfl ?_
      refine l_on rfl rfl ?_
      refine l_yield (y_eq rfl rfl) rfl ?_
      apply l_yield
      · (first | exact y_pick_t rfl rfl | exact y_pick_f rfl rfl)
      · rfl
      refine l_yield (y_assign rfl) rfl ?_
      refine l_nil (a_then (w_ret ?_))
      apply a_ret
      · rfl
      · (apply Rs.tmp rfl; exact Rs.nil)
      · exact ⟨by simp [one], rfl⟩
      · (apply ent; (repeat constructor); done)
    · exact absurd rfl h9
end Go.Proofs.YtekhbjlplfbdkaaDoor
