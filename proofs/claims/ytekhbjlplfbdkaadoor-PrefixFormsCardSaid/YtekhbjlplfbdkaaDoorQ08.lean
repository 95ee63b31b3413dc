/- Package prefix: newReader. -/
import Derived.Test.YtekhbjlplfbdkaaDoorQ02
import Derived.Test.YtekhbjlplfbdkaaDoorQ07
import Derived.LoopN
set_option linter.unusedVariables false
set_option linter.unusedSimpArgs false
namespace Go.Proofs.YtekhbjlplfbdkaaDoor
open Go Go.RowKit Sl Eg
set_option maxRecDepth 10000
variable {E : Env} {Es : List Ent} {pp tb s most : Nat}
theorem strm_drop {L : List Rl} {bk : Bool} {a : List (Nat × Nat)} {sy k m : Nat} (hm : m ≤ k) : strm L bk (a ++ [(sy, k)]) = rep m (tx L bk sy) ++ strm L bk (dropG a sy k m) := by
  unfold dropG
  rw [strm_snoc]
  split
  · rename_i h; rw [h]
  · rw [strm_snoc, ← List.append_assoc, ← rep_add, Nat.add_sub_cancel' hm]
theorem gok_drop {L : List Rl} {a : List (Nat × Nat)} {sy k m : Nat} (h : gok L (a ++ [(sy, k)])) (hm : m ≤ k) : gok L (dropG a sy k m) := by
  obtain ⟨h1, h2⟩ := gok_append.1 h
  obtain ⟨a1, a2, a3, a4, a5⟩ := gok_one.1 h2
  unfold dropG
  split
  · exact h1
  · exact gok_append.2 ⟨h1, gok_one.2 ⟨a1, a2, a3, by omega, by omega⟩⟩
theorem strm_refs {L : List Rl} {bk : Bool} {i : Nat} {r : Rl} (h : L[i]? = some r) (hk : r.ok (i + 1)) (hn : ∀ b, r ≠ .letter b) : strm L bk (refsG bk r) = tx L bk (i + 1) := by
  cases r with
  | letter b => exact absurd rfl (hn b)
  | pair l r => rw [tx_pair h hk]; cases bk <;> simp [refsG, strm, rep_one]
  | power x k => rw [tx_power h hk]; simp [refsG, strm]
theorem gok_refs {L : List Rl} (hwf : Wf L) {bk : Bool} {i : Nat} {r : Rl} (h : L[i]? = some r) (h0 : 0 ≤ lvl L (i + 1)) : gok L (refsG bk r) := by
  have hk := hwf.ok i r h
  have hlt := (List.getElem?_eq_some_iff.1 h).1
  cases r with
  | letter b => intro g hg; simp [refsG] at hg
  | pair l r =>
    have hl := lvl_pair h hk h0
    obtain ⟨k1, k2, k3, k4⟩ := hk
    cases bk
    · intro g hg
      simp [refsG] at hg
      rcases hg with rfl | rfl
      · exact ⟨k3, by show r ≤ _; omega, hl.2, by simp, by simp [maxLength]⟩
      · exact ⟨k1, by show l ≤ _; omega, hl.1, by simp, by simp [maxLength]⟩
    · intro g hg
      simp [refsG] at hg
      rcases hg with rfl | rfl
      · exact ⟨k1, by show l ≤ _; omega, hl.1, by simp, by simp [maxLength]⟩
      · exact ⟨k3, by show r ≤ _; omega, hl.2, by simp, by simp [maxLength]⟩
  | power x k =>
    have hl := lvl_power h hk h0
    have hle := power_le hwf h
    obtain ⟨k1, k2, k3⟩ := hk
    intro g hg
    simp [refsG] at hg
    subst hg
    exact ⟨k1, by show x ≤ _; omega, hl, by show 1 ≤ k; omega, hle⟩
def NrPost (pp s tb most : Nat) (Es : List Ent) (bk : Bool) (S : List UInt8) (v : Value) (Q : List HP) : Prop :=
  ∃ p c gs, v = .agg #[.pointer (some ⟨pp, 0, none⟩), .bool bk, .slice p gs.length c] ∧ strm (rls Es) bk gs = S ∧ gok (rls Es) gs ∧ gs.length ≤ 4194304 ∧ Q = [sl p c 138 2 gs.length (gsC gs), cells pp [.pointer (some ⟨s, 0, none⟩), .pointer (some ⟨tb, 0, none⟩)] 78, tabP tb s (rls Es), storeP s most Es]
structure NrG where
  i : Nat
  k : Nat
  n : Nat
  a : List (Nat × Nat)
structure NrOk (L : List Rl) (bk : Bool) (i0 : Nat) (S : List UInt8) (x : NrG) : Prop where
  le : x.i ≤ i0
  ok : gok L (x.a ++ [(x.i + 1, x.k)])
  n1 : 1 ≤ x.n
  n2 : x.n ≤ len L (x.i + 1)
  al : x.a.length ≤ 2 * (i0 - x.i)
  st : (tx L bk (x.i + 1)).drop (len L (x.i + 1) - x.n) ++ (rep (x.k - 1) (tx L bk (x.i + 1)) ++ strm L bk x.a) = S
theorem strm_dropG {L : List Rl} {bk : Bool} {a : List (Nat × Nat)} {sy k : Nat} (hk : 1 ≤ k) : strm L bk (dropG a sy k 1) = rep (k - 1) (tx L bk sy) ++ strm L bk a := by
  unfold dropG
  split
  · rename_i h; subst h; simp [rep_zero]
  · rw [strm_snoc]
theorem pair_len {A : List (Nat × Nat)} {q : Nat × Nat} (h : A.length < 1099511627000) : (A ++ [q]).length < 1099511627776 := by simp; omega
theorem dropG_all (a : List (Nat × Nat)) (sy : Nat) : dropG a sy 1 1 = a := if_pos rfl
theorem drop_far {u v : List UInt8} {N n : Nat} (hN : N = u.length + v.length) (h : n ≤ v.length) : (u ++ v).drop (N - n) = v.drop (v.length - n) := by
  rw [List.drop_append, List.drop_eq_nil_of_le (by omega), List.nil_append, show N - n - u.length = v.length - n by omega]
theorem drop_near {u v : List UInt8} {N n : Nat} (hN : N = u.length + v.length) (h : v.length ≤ n) : (u ++ v).drop (N - n) = u.drop (u.length - (n - v.length)) ++ v := by
  rw [List.drop_append, show N - n = u.length - (n - v.length) by omega, show u.length - (n - v.length) - u.length = 0 by omega, List.drop_zero]
theorem ct_newReader (hE : Seat E) {i0 n0 : Nat} {bk : Bool} (hi0 : i0 < Es.length) (hn1 : 1 ≤ n0) (hn2 : n0 ≤ len (rls Es) (i0 + 1)) (hl0 : 0 ≤ lvl (rls Es) (i0 + 1)) :
    Ct E 38 [.pointer (some ⟨pp, 0, none⟩), .int .i64 ((i0 + 1 : Nat) : Int), .int .i64 (n0 : Nat), .bool bk] [cells pp [.pointer (some ⟨s, 0, none⟩), .pointer (some ⟨tb, 0, none⟩)] 78, tabP tb s (rls Es), storeP s most Es] (NrPost pp s tb most Es bk ((tx (rls Es) bk (i0 + 1)).drop (len (rls Es) (i0 + 1) - n0))) := by
  refine ct_fact (p := storeP s most Es) (by ((repeat constructor); done)) (fun _ h => storeP_says h) (fun hsay => ?_)
  obtain ⟨hwf, htx, hmost, hfit⟩ := hsay
  have hroom := hwf.room
  have hshort := hwf.short (i0 + 1)
  rw [rls_length] at hroom
  unfold maxRules at hroom
  unfold maxLength at hshort
  obtain ⟨S, hS⟩ : ∃ S, S = (tx (rls Es) bk (i0 + 1)).drop (len (rls Es) (i0 + 1) - n0) := ⟨_, rfl⟩
  rw [← hS]
  refine fn_enter (hE.fn Tryd.func38) rfl rfl rfl (fun R => ?_)
  simp only [argsL, List.cons_append, List.nil_append]
  refine w_seq (wR ?_)
  apply lL (by kernel_rfl) rfl
  refine ld_alloc (hE.t rfl) (fun b8 => ?_)
  refine l_nil (aT (w_seq (wR ?_)))
  refine lY (yM rfl) rfl ?_
  refine lY (yM rfl) rfl ?_
  apply lY
  · (first | exact y_build (hE.t rfl) rfl rfl | exact y_buildA (hE.t rfl) rfl rfl)
  · rfl
  apply lL (by kernel_rfl) rfl
  refine ld_alloc (hE.t rfl) (fun b9 => ?_)
  apply lL (by kernel_rfl) rfl
  (first | (apply ld_store rfl rfl (hE.t rfl) rfl; (focus ((repeat constructor); done)); (focus rfl); (focus (exact Nat.le_of_ble_eq_true rfl))) | (apply ld_store_sl rfl rfl (hE.t rfl) rfl; (focus ((repeat constructor); done)); (focus rfl); (focus (first | omega | (simp only [cellsL, length_setMany, List.length_cons, List.length_nil]; omega)))))
  refine l_nil (aT (w_seq (w_seq (wR ?_))))
  refine lY (yM rfl) rfl ?_
  refine lY (y_gt rfl rfl) rfl ?_
  refine l_nil (aT ?_)
  refine w_cond_d rfl (fun hn => ?_) (fun hn => ?_)
  · skip
    apply w_heap
    · apply ent_trans (ent_nil (t := 138) (sz := 2))
      apply rdP_close (gs := []) (x := b9) (m := 0) (pv := .pointer (some ⟨pp, 0, none⟩)) (bk := bk) (p := none) (c := 0)
      · ((repeat constructor); done)
      · rfl
      · rfl
    refine wR ?_
    refine lY (yM rfl) rfl ?_
    apply lL (by kernel_rfl) rfl
    apply ld_call (ct_push hE (gs := []) (by simp)) rfl (hE.f (by kernel_rfl))
    · ((repeat constructor); done)
    rintro _ _ ⟨rfl, rfl⟩
    simp only [List.cons_append, List.nil_append]
    refine l_nil (aT (w_seq (w_block ?_)))
    skip
    refine w_loop (fun x : NrG => [(0, .pointer (some ⟨pp, 0, none⟩)), (1, .int .i64 ((x.i + 1 : Nat) : Int)), (2, .int .i64 (x.n : Nat)), (3, .bool bk), (8, .pointer (some ⟨b8, 0, none⟩)), (9, .pointer (some ⟨b9, 0, none⟩))]) (fun x => [rdP b9 (.pointer (some ⟨pp, 0, none⟩)) bk (x.a ++ [(x.i + 1, x.k)]), cells b8 [.pointer none, .bool false, .slice none 0 0] 93, cells pp [.pointer (some ⟨s, 0, none⟩), .pointer (some ⟨tb, 0, none⟩)] 78, tabP tb s (rls Es), storeP s most Es, R]) (fun x => x.i) (NrOk (rls Es) bk i0 S) ⟨i0, 1, n0, []⟩ ?_ ?_ ?_ ?_
    · exact ⟨Nat.le_refl _, gok_one.2 ⟨by show 1 ≤ i0 + 1; omega, by rw [rls_length]; show i0 + 1 ≤ _; omega, hl0, by show 1 ≤ 1; omega, by simp [maxLength]⟩, hn1, hn2, by simp, by simp [rep_zero, strm, hS]⟩
    · exact ⟨rfl, rfl, rfl, rfl, rfl, rfl, trivial⟩
    · (apply ent; (repeat constructor); done)
    rintro ⟨i, k, n, a⟩ hok
    obtain ⟨le, ok, n1, n2, al, st⟩ := hok
    simp only at le ok n1 n2 al st ⊢
    have hi : i < Es.length := by omega
    have hshort2 := hwf.short (i + 1)
    unfold maxLength at hshort2
    skip
    refine w_seq (w_seq (wR ?_))
    refine lY (yM rfl) rfl ?_
    refine lY (y_gt rfl rfl) rfl ?_
    refine lY (yM rfl) rfl ?_
    refine l_split 24 rfl (fun hn3 => ?_) (fun hn3 => ?_)
    · skip
      refine l_on rfl rfl ?_
      refine lY (yM rfl) rfl ?_
      refine l_on rfl rfl ?_
      refine lY (yM rfl) rfl ?_
      refine l_on rfl rfl ?_
      refine lY (yM rfl) rfl ?_
      refine l_on rfl rfl ?_
      apply lL (by kernel_rfl) rfl
      apply ld_call (ct_size hE hi) rfl (hE.f (by kernel_rfl))
      · ((repeat constructor); done)
      rintro _ _ ⟨rfl, rfl⟩
      simp only [List.cons_append, List.nil_append]
      refine l_on rfl rfl ?_
      refine lY (y_lt rfl rfl) rfl ?_
      apply lY
      · (first | exact y_pick_t rfl rfl | exact y_pick_f rfl rfl)
      · rfl
      refine l_nil (aT ?_)
      refine w_cond_d rfl (fun hlt => ?_) (fun hlt => ?_)
      · skip
        have hent : Es[i]? = some (Es[i]'hi) := List.getElem?_eq_getElem hi
        generalize Es[i]'hi = en at hent
        have hr := rls_get hent
        have hrok := hwf.ok i en.r hr
        have hk := gok_one.1 (gok_append.1 ok).2
        have hk5 := hk.2.2.2.2
        unfold maxLength at hk5
        have hA : strm (rls Es) bk (dropG a (i + 1) k 1) = rep (k - 1) (tx (rls Es) bk (i + 1)) ++ strm (rls Es) bk a := strm_dropG hk.2.2.2.1
        have hAl : (dropG a (i + 1) k 1).length ≤ a.length + 1 := by unfold dropG; split <;> simp
        have hAok := gok_drop ok hk.2.2.2.1
        have hRok := gok_refs hwf (bk := bk) hr hk.2.2.1
        rw [← hA] at st
        refine w_skip (aT (w_block (w_seq (wR ?_))))
        apply lL (by kernel_rfl) rfl
        apply ld_call (ct_open_ hE (a := a) hent hk.2.2.2.1 hk5 (by omega)) rfl (hE.f (by kernel_rfl))
        · ((repeat constructor); done)
        rintro _ _ ⟨rfl, rfl⟩
        simp only [List.cons_append, List.nil_append]
        refine l_nil (aT (w_seq (wR ?_)))
        refine lY (yM rfl) rfl ?_
        apply lL (by kernel_rfl) rfl
        apply ld_call (ct_Store hE) rfl (hE.f (by kernel_rfl))
        · ((repeat constructor); done)
        rintro _ _ ⟨rfl, rfl⟩
        simp only [List.cons_append, List.nil_append]
        refine lY (yM rfl) rfl ?_
        apply lL (by kernel_rfl) rfl
        apply ld_call (ct_rule hE hent) rfl (hE.f (by kernel_rfl))
        · ((repeat constructor); done)
        rintro _ _ ⟨rfl, rfl⟩
        simp only [List.cons_append, List.nil_append]
        generalize hA2 : dropG a (i + 1) k 1 = A at *
        generalize en.r = r at *
        cases r with
        | letter b => rw [len_letter hr] at hlt; omega
        | power y t =>
          simp only [Rl.kind, Rl.byte, Rl.left, Rl.right, Rl.times]
          obtain ⟨r1, r2, r3⟩ := id hrok
          obtain ⟨j, rfl⟩ : ∃ j, y = j + 1 := ⟨y - 1, by omega⟩
          have hlen := len_power hr hrok
          have hpos := len_pos hwf (j + 1) (by omega) (by rw [rls_length]; omega)
          have htle := power_le hwf hr
          unfold maxLength at htle
          have hlj := hwf.short (j + 1)
          unfold maxLength at hlj
          have htxy := tx_length (rls Es) bk (j + 1)
          have hst := drop_rep (t := tx (rls Es) bk (j + 1)) (k := t) n1 (by omega) (by rw [htxy, ← hlen]; exact n2)
          rw [htxy, ← hlen, ← tx_power hr hrok] at hst
          rw [hst, List.append_assoc] at st
          have hq : (n - 1) / len (rls Es) (j + 1) < t := (Nat.div_lt_iff_lt_mul hpos).2 (by omega)
          have hmo := Nat.mod_lt (n - 1) hpos
          have hdiv : ((n : Int) - 1) / (len (rls Es) (j + 1) : Nat) = (((n - 1) / len (rls Es) (j + 1) : Nat) : Int) := by
            rw [show (n : Int) - 1 = ((n - 1 : Nat) : Int) by omega]; exact (Int.natCast_ediv ..).symm
          have hmod : ((n : Int) - 1) % (len (rls Es) (j + 1) : Nat) = (((n - 1) % len (rls Es) (j + 1) : Nat) : Int) := by
            rw [show (n : Int) - 1 = ((n - 1 : Nat) : Int) by omega]; exact (Int.natCast_emod ..).symm
          generalize (n - 1) / len (rls Es) (j + 1) = q at *
          generalize (n - 1) % len (rls Es) (j + 1) = m2 at *
          have hqm : t - 1 - q ≤ t := by omega
          have hdr : dropG A (j + 1) t (t - 1 - q) = A ++ [(j + 1, q + 1)] := by
            unfold dropG
            rw [if_neg (by omega), show t - (t - 1 - q) = q + 1 by omega]
          have hgo : gok (rls Es) (A ++ [(j + 1, q + 1)]) := gok_append.2 ⟨hAok, gok_one.2 ⟨by omega, by rw [rls_length]; omega, lvl_power hr hrok hk.2.2.1, by omega, by unfold maxLength; omega⟩⟩
          have hdv : (t : Int) - 1 - ((n : Int) - 1) / (len (rls Es) (j + 1) : Nat) = ((t - 1 - q : Nat) : Int) := by rw [hdiv]; omega
          have hb1 : 0 ≤ ((n : Int) - 1) / (len (rls Es) (j + 1) : Nat) ∧ ((n : Int) - 1) / (len (rls Es) (j + 1) : Nat) ≤ t := by rw [hdiv]; omega
          have hb2 : 0 ≤ ((n : Int) - 1) % (len (rls Es) (j + 1) : Nat) ∧ ((n : Int) - 1) % (len (rls Es) (j + 1) : Nat) ≤ 1152921504606846976 := by rw [hmod]; omega
          cases bk with
          | true =>
            skip
            refine lY (yM rfl) rfl ?_
            refine lY (y_extract rfl rfl) rfl ?_
            refine lY (y_extract rfl rfl) rfl ?_
            apply lL (by kernel_rfl) rfl
            refine ld_alloc (hE.t rfl) (fun b10 => ?_)
            apply lL (by kernel_rfl) rfl
            (first | (apply ld_store rfl rfl (hE.t rfl) rfl; (focus ((repeat constructor); done)); (focus rfl); (focus (exact Nat.le_of_ble_eq_true rfl))) | (apply ld_store_sl rfl rfl (hE.t rfl) rfl; (focus ((repeat constructor); done)); (focus rfl); (focus (first | omega | (simp only [cellsL, length_setMany, List.length_cons, List.length_nil]; omega)))))
            refine lY (yA rfl) rfl ?_
            refine l_nil (aT (w_seq (w_draws (by kernel_rfl) ?_)))
            refine lY (yF rfl (hE.t rfl) rfl) rfl ?_
            apply lY
            · (first | (apply y_load rfl (hE.t rfl) rfl; (repeat (first | rfl | assumption | constructor)); done) | exact y_load_old rfl (hE.t rfl) rfl (by assumption) | (apply y_load_ro rfl (hE.t rfl) rfl; (focus ((repeat constructor); done)); (focus assumption)) | (apply y_load_q rfl (hE.t rfl) rfl (by assumption); (focus ((repeat constructor); done)); (first | ((focus exact f0); (focus omega)) | ((focus exact f1); (focus omega)) | ((focus assumption); (focus omega)))))
            · rfl
            refine lY (yF rfl (hE.t rfl) rfl) rfl ?_
            apply lY
            · (first | (apply y_load rfl (hE.t rfl) rfl; (repeat (first | rfl | assumption | constructor)); done) | exact y_load_old rfl (hE.t rfl) rfl (by assumption) | (apply y_load_ro rfl (hE.t rfl) rfl; (focus ((repeat constructor); done)); (focus assumption)) | (apply y_load_q rfl (hE.t rfl) rfl (by assumption); (focus ((repeat constructor); done)); (first | ((focus exact f0); (focus omega)) | ((focus exact f1); (focus omega)) | ((focus assumption); (focus omega)))))
            · rfl
            refine lY (yA rfl) rfl ?_
            refine lY (yA rfl) rfl ?_
            refine l_nil (aT (w_seq (w_seq (wR ?_))))
            refine lY (yM rfl) rfl ?_
            refine lY (yM rfl) rfl ?_
            skip
            refine l_off rfl rfl rfl rfl (l_off rfl rfl rfl rfl (l_off rfl rfl rfl rfl ?_))
            apply lY
            · (first | exact y_pick_t rfl rfl | exact y_pick_f rfl rfl)
            · rfl
            refine l_nil (aT ?_)
            refine w_cond_t rfl ?_
            refine wR ?_
            refine lY (yM rfl) rfl ?_
            refine lY (yM rfl) rfl ?_
            refine lY (yA rfl) rfl ?_
            refine lY (yA rfl) rfl ?_
            refine l_nil (aT (w_seq (wR ?_)))
            refine lY (yM rfl) rfl ?_
            refine lY (yM rfl) rfl ?_
            apply lL (by kernel_rfl) rfl
            apply ld_call (ct_size hE (Es := Es) (i := j) (by omega)) rfl (hE.f (by kernel_rfl))
            · ((repeat constructor); done)
            rintro _ _ ⟨rfl, rfl⟩
            simp only [List.cons_append, List.nil_append]
            refine lY (yA rfl) rfl ?_
            refine l_nil (aT (w_block (w_seq (wR ?_))))
            refine lY (yF rfl (hE.t rfl) rfl) rfl ?_
            apply lY
            · (first | (apply y_load rfl (hE.t rfl) rfl; (repeat (first | rfl | assumption | constructor)); done) | exact y_load_old rfl (hE.t rfl) rfl (by assumption) | (apply y_load_ro rfl (hE.t rfl) rfl; (focus ((repeat constructor); done)); (focus assumption)) | (apply y_load_q rfl (hE.t rfl) rfl (by assumption); (focus ((repeat constructor); done)); (first | ((focus exact f0); (focus omega)) | ((focus exact f1); (focus omega)) | ((focus assumption); (focus omega)))))
            · rfl
            refine lY (y_eq rfl rfl) rfl ?_
            refine lY (yA rfl) rfl ?_
            refine l_nil (aT ?_)
            refine w_cond_t rfl ?_
            refine w_seq (w_draws (by kernel_rfl) ?_)
            refine lY (yF rfl (hE.t rfl) rfl) rfl ?_
            apply lY
            · (first | (apply y_load rfl (hE.t rfl) rfl; (repeat (first | rfl | assumption | constructor)); done) | exact y_load_old rfl (hE.t rfl) rfl (by assumption) | (apply y_load_ro rfl (hE.t rfl) rfl; (focus ((repeat constructor); done)); (focus assumption)) | (apply y_load_q rfl (hE.t rfl) rfl (by assumption); (focus ((repeat constructor); done)); (first | ((focus exact f0); (focus omega)) | ((focus exact f1); (focus omega)) | ((focus assumption); (focus omega)))))
            · rfl
            refine lY (y_sub rfl rfl (by omega) (by omega)) rfl ?_
            refine lY (yM rfl) rfl ?_
            refine lY (y_sub rfl rfl (by omega) (by omega)) rfl ?_
            refine lY (yM rfl) rfl ?_
            refine lY (y_quo rfl rfl (by omega) (by omega) (by omega)) rfl ?_
            refine lY (y_sub rfl rfl (by omega) (by omega)) rfl ?_
            refine l_eq 69 (.int .i64 ((t - 1 - q : Nat) : Int)) rfl (int_eq hdv) ?_
            simp only [refsG]
            apply lL (by kernel_rfl) rfl
            apply ld_call (ct_drop hE (a := A) (sy := j + 1) hqm htle (by omega)) rfl (hE.f (by kernel_rfl))
            · ((repeat constructor); done)
            rw [hdr]
            rintro _ _ ⟨rfl, rfl⟩
            simp only [List.cons_append, List.nil_append]
            refine l_nil (aT (w_seq (wR ?_)))
            refine lY (yM rfl) rfl ?_
            refine lY (y_sub rfl rfl (by omega) (by omega)) rfl ?_
            refine lY (yM rfl) rfl ?_
            refine lY (y_rem rfl rfl (by omega) (by omega)) rfl ?_
            refine lY (y_add rfl rfl (by omega) (by omega)) rfl ?_
            refine lY (yA rfl) rfl ?_
            refine l_nil (aT (wR ?_))
            refine lY (yM rfl) rfl ?_
            refine lY (yA rfl) rfl ?_
            refine l_nil (a_block (a_block ?_))
            refine wa_eq 2 (.int .i64 ((m2 + 1 : Nat) : Int)) rfl (int_eq (by rw [hmod]; omega)) ?_
            refine a_round (ι := NrG) (j := ⟨j, q + 1, m2 + 1, A⟩) ?_ ?_ ?_ ?_
            · exact ⟨by show j ≤ i0; omega, hgo, by show 1 ≤ m2 + 1; omega, by show m2 + 1 ≤ len (rls Es) (j + 1); omega, by show A.length ≤ 2 * (i0 - j); omega, st⟩
            · show j < i; omega
            · exact ⟨rfl, rfl, rfl, rfl, rfl, rfl, trivial⟩
            · (apply ent; (repeat constructor); done)
          | false =>
            skip
            refine lY (yM rfl) rfl ?_
            refine lY (y_extract rfl rfl) rfl ?_
            refine lY (y_extract rfl rfl) rfl ?_
            apply lL (by kernel_rfl) rfl
            refine ld_alloc (hE.t rfl) (fun b10 => ?_)
            apply lL (by kernel_rfl) rfl
            (first | (apply ld_store rfl rfl (hE.t rfl) rfl; (focus ((repeat constructor); done)); (focus rfl); (focus (exact Nat.le_of_ble_eq_true rfl))) | (apply ld_store_sl rfl rfl (hE.t rfl) rfl; (focus ((repeat constructor); done)); (focus rfl); (focus (first | omega | (simp only [cellsL, length_setMany, List.length_cons, List.length_nil]; omega)))))
            refine lY (yA rfl) rfl ?_
            refine l_nil (aT (w_seq (w_draws (by kernel_rfl) ?_)))
            refine lY (yF rfl (hE.t rfl) rfl) rfl ?_
            apply lY
            · (first | (apply y_load rfl (hE.t rfl) rfl; (repeat (first | rfl | assumption | constructor)); done) | exact y_load_old rfl (hE.t rfl) rfl (by assumption) | (apply y_load_ro rfl (hE.t rfl) rfl; (focus ((repeat constructor); done)); (focus assumption)) | (apply y_load_q rfl (hE.t rfl) rfl (by assumption); (focus ((repeat constructor); done)); (first | ((focus exact f0); (focus omega)) | ((focus exact f1); (focus omega)) | ((focus assumption); (focus omega)))))
            · rfl
            refine lY (yF rfl (hE.t rfl) rfl) rfl ?_
            apply lY
            · (first | (apply y_load rfl (hE.t rfl) rfl; (repeat (first | rfl | assumption | constructor)); done) | exact y_load_old rfl (hE.t rfl) rfl (by assumption) | (apply y_load_ro rfl (hE.t rfl) rfl; (focus ((repeat constructor); done)); (focus assumption)) | (apply y_load_q rfl (hE.t rfl) rfl (by assumption); (focus ((repeat constructor); done)); (first | ((focus exact f0); (focus omega)) | ((focus exact f1); (focus omega)) | ((focus assumption); (focus omega)))))
            · rfl
            refine lY (yA rfl) rfl ?_
            refine lY (yA rfl) rfl ?_
            refine l_nil (aT (w_seq (w_seq (wR ?_))))
            refine lY (yM rfl) rfl ?_
            refine lY (yM rfl) rfl ?_
            skip
            refine l_on rfl rfl ?_
            refine lY (yF rfl (hE.t rfl) rfl) rfl ?_
            refine l_on rfl rfl ?_
            apply lY
            · (first | (apply y_load rfl (hE.t rfl) rfl; (repeat (first | rfl | assumption | constructor)); done) | exact y_load_old rfl (hE.t rfl) rfl (by assumption) | (apply y_load_ro rfl (hE.t rfl) rfl; (focus ((repeat constructor); done)); (focus assumption)) | (apply y_load_q rfl (hE.t rfl) rfl (by assumption); (focus ((repeat constructor); done)); (first | ((focus exact f0); (focus omega)) | ((focus exact f1); (focus omega)) | ((focus assumption); (focus omega)))))
            · rfl
            refine l_on rfl rfl ?_
            refine lY (y_eq rfl rfl) rfl ?_
            apply lY
            · (first | exact y_pick_t rfl rfl | exact y_pick_f rfl rfl)
            · rfl
            refine l_nil (aT ?_)
            refine w_cond_t rfl ?_
            refine wR ?_
            refine lY (yM rfl) rfl ?_
            refine lY (yM rfl) rfl ?_
            refine lY (yA rfl) rfl ?_
            refine lY (yA rfl) rfl ?_
            refine l_nil (aT (w_seq (wR ?_)))
            refine lY (yM rfl) rfl ?_
            refine lY (yM rfl) rfl ?_
            apply lL (by kernel_rfl) rfl
            apply ld_call (ct_size hE (Es := Es) (i := j) (by omega)) rfl (hE.f (by kernel_rfl))
            · ((repeat constructor); done)
            rintro _ _ ⟨rfl, rfl⟩
            simp only [List.cons_append, List.nil_append]
            refine lY (yA rfl) rfl ?_
            refine l_nil (aT (w_block (w_seq (wR ?_))))
            refine lY (yF rfl (hE.t rfl) rfl) rfl ?_
            apply lY
            · (first | (apply y_load rfl (hE.t rfl) rfl; (repeat (first | rfl | assumption | constructor)); done) | exact y_load_old rfl (hE.t rfl) rfl (by assumption) | (apply y_load_ro rfl (hE.t rfl) rfl; (focus ((repeat constructor); done)); (focus assumption)) | (apply y_load_q rfl (hE.t rfl) rfl (by assumption); (focus ((repeat constructor); done)); (first | ((focus exact f0); (focus omega)) | ((focus exact f1); (focus omega)) | ((focus assumption); (focus omega)))))
            · rfl
            refine lY (y_eq rfl rfl) rfl ?_
            refine lY (yA rfl) rfl ?_
            refine l_nil (aT ?_)
            refine w_cond_t rfl ?_
            refine w_seq (w_draws (by kernel_rfl) ?_)
            refine lY (yF rfl (hE.t rfl) rfl) rfl ?_
            apply lY
            · (first | (apply y_load rfl (hE.t rfl) rfl; (repeat (first | rfl | assumption | constructor)); done) | exact y_load_old rfl (hE.t rfl) rfl (by assumption) | (apply y_load_ro rfl (hE.t rfl) rfl; (focus ((repeat constructor); done)); (focus assumption)) | (apply y_load_q rfl (hE.t rfl) rfl (by assumption); (focus ((repeat constructor); done)); (first | ((focus exact f0); (focus omega)) | ((focus exact f1); (focus omega)) | ((focus assumption); (focus omega)))))
            · rfl
            refine lY (y_sub rfl rfl (by omega) (by omega)) rfl ?_
            refine lY (yM rfl) rfl ?_
            refine lY (y_sub rfl rfl (by omega) (by omega)) rfl ?_
            refine lY (yM rfl) rfl ?_
            refine lY (y_quo rfl rfl (by omega) (by omega) (by omega)) rfl ?_
            refine lY (y_sub rfl rfl (by omega) (by omega)) rfl ?_
            refine l_eq 69 (.int .i64 ((t - 1 - q : Nat) : Int)) rfl (int_eq hdv) ?_
            simp only [refsG]
            apply lL (by kernel_rfl) rfl
            apply ld_call (ct_drop hE (a := A) (sy := j + 1) hqm htle (by omega)) rfl (hE.f (by kernel_rfl))
            · ((repeat constructor); done)
            rw [hdr]
            rintro _ _ ⟨rfl, rfl⟩
            simp only [List.cons_append, List.nil_append]
            refine l_nil (aT (w_seq (wR ?_)))
            refine lY (yM rfl) rfl ?_
            refine lY (y_sub rfl rfl (by omega) (by omega)) rfl ?_
            refine lY (yM rfl) rfl ?_
            refine lY (y_rem rfl rfl (by omega) (by omega)) rfl ?_
            refine lY (y_add rfl rfl (by omega) (by omega)) rfl ?_
            refine lY (yA rfl) rfl ?_
            refine l_nil (aT (wR ?_))
            refine lY (yM rfl) rfl ?_
            refine lY (yA rfl) rfl ?_
            refine l_nil (a_block (a_block ?_))
            refine wa_eq 2 (.int .i64 ((m2 + 1 : Nat) : Int)) rfl (int_eq (by rw [hmod]; omega)) ?_
            refine a_round (ι := NrG) (j := ⟨j, q + 1, m2 + 1, A⟩) ?_ ?_ ?_ ?_
            · exact ⟨by show j ≤ i0; omega, hgo, by show 1 ≤ m2 + 1; omega, by show m2 + 1 ≤ len (rls Es) (j + 1); omega, by show A.length ≤ 2 * (i0 - j); omega, st⟩
            · show j < i; omega
            · exact ⟨rfl, rfl, rfl, rfl, rfl, rfl, trivial⟩
            · (apply ent; (repeat constructor); done)
        | pair l r =>
          simp only [Rl.kind, Rl.byte, Rl.left, Rl.right, Rl.times]
          obtain ⟨r1, r2, r3, r4⟩ := id hrok
          obtain ⟨jl, rfl⟩ : ∃ j, l = j + 1 := ⟨l - 1, by omega⟩
          obtain ⟨jr, rfl⟩ : ∃ j, r = j + 1 := ⟨r - 1, by omega⟩
          have hlen := len_pair hr hrok
          have hll := hwf.short (jl + 1)
          have hlr := hwf.short (jr + 1)
          unfold maxLength at hll hlr
          have hlv := lvl_pair hr hrok hk.2.2.1
          have htp := tx_pair hr hrok bk
          cases bk with
          | true =>
            simp only [if_true] at htp
            have hrefs : A ++ refsG true (.pair (jl + 1) (jr + 1)) = A ++ [(jl + 1, 1)] ++ [(jr + 1, 1)] := by simp [refsG]
            skip
            refine lY (yM rfl) rfl ?_
            refine lY (y_extract rfl rfl) rfl ?_
            refine lY (y_extract rfl rfl) rfl ?_
            apply lL (by kernel_rfl) rfl
            refine ld_alloc (hE.t rfl) (fun b10 => ?_)
            apply lL (by kernel_rfl) rfl
            (first | (apply ld_store rfl rfl (hE.t rfl) rfl; (focus ((repeat constructor); done)); (focus rfl); (focus (exact Nat.le_of_ble_eq_true rfl))) | (apply ld_store_sl rfl rfl (hE.t rfl) rfl; (focus ((repeat constructor); done)); (focus rfl); (focus (first | omega | (simp only [cellsL, length_setMany, List.length_cons, List.length_nil]; omega)))))
            refine lY (yA rfl) rfl ?_
            refine l_nil (aT (w_seq (w_draws (by kernel_rfl) ?_)))
            refine lY (yF rfl (hE.t rfl) rfl) rfl ?_
            apply lY
            · (first | (apply y_load rfl (hE.t rfl) rfl; (repeat (first | rfl | assumption | constructor)); done) | exact y_load_old rfl (hE.t rfl) rfl (by assumption) | (apply y_load_ro rfl (hE.t rfl) rfl; (focus ((repeat constructor); done)); (focus assumption)) | (apply y_load_q rfl (hE.t rfl) rfl (by assumption); (focus ((repeat constructor); done)); (first | ((focus exact f0); (focus omega)) | ((focus exact f1); (focus omega)) | ((focus assumption); (focus omega)))))
            · rfl
            refine lY (yF rfl (hE.t rfl) rfl) rfl ?_
            apply lY
            · (first | (apply y_load rfl (hE.t rfl) rfl; (repeat (first | rfl | assumption | constructor)); done) | exact y_load_old rfl (hE.t rfl) rfl (by assumption) | (apply y_load_ro rfl (hE.t rfl) rfl; (focus ((repeat constructor); done)); (focus assumption)) | (apply y_load_q rfl (hE.t rfl) rfl (by assumption); (focus ((repeat constructor); done)); (first | ((focus exact f0); (focus omega)) | ((focus exact f1); (focus omega)) | ((focus assumption); (focus omega)))))
            · rfl
            refine lY (yA rfl) rfl ?_
            refine lY (yA rfl) rfl ?_
            refine l_nil (aT (w_seq (w_seq (wR ?_))))
            refine lY (yM rfl) rfl ?_
            refine lY (yM rfl) rfl ?_
            skip
            refine l_off rfl rfl rfl rfl (l_off rfl rfl rfl rfl (l_off rfl rfl rfl rfl ?_))
            apply lY
            · (first | exact y_pick_t rfl rfl | exact y_pick_f rfl rfl)
            · rfl
            refine l_nil (aT ?_)
            refine w_cond_t rfl ?_
            have g1 : gok (rls Es) (A ++ [(jl + 1, 1)]) := gok_append.2 ⟨hAok, gok_one.2 ⟨by omega, by rw [rls_length]; omega, hlv.1, by omega, by simp [maxLength]⟩⟩
            have g2 : gok (rls Es) (A ++ [(jl + 1, 1)] ++ [(jr + 1, 1)]) := gok_append.2 ⟨g1, gok_one.2 ⟨by omega, by rw [rls_length]; omega, hlv.2, by omega, by simp [maxLength]⟩⟩
            refine wR ?_
            refine lY (yM rfl) rfl ?_
            refine lY (yM rfl) rfl ?_
            refine lY (yA rfl) rfl ?_
            refine lY (yA rfl) rfl ?_
            refine l_nil (aT (w_seq (wR ?_)))
            refine lY (yM rfl) rfl ?_
            refine lY (yM rfl) rfl ?_
            apply lL (by kernel_rfl) rfl
            apply ld_call (ct_size hE (Es := Es) (i := jl) (by omega)) rfl (hE.f (by kernel_rfl))
            · ((repeat constructor); done)
            rintro _ _ ⟨rfl, rfl⟩
            simp only [List.cons_append, List.nil_append]
            refine lY (yA rfl) rfl ?_
            refine l_nil (aT (w_block (w_seq (wR ?_))))
            refine lY (yF rfl (hE.t rfl) rfl) rfl ?_
            apply lY
            · (first | (apply y_load rfl (hE.t rfl) rfl; (repeat (first | rfl | assumption | constructor)); done) | exact y_load_old rfl (hE.t rfl) rfl (by assumption) | (apply y_load_ro rfl (hE.t rfl) rfl; (focus ((repeat constructor); done)); (focus assumption)) | (apply y_load_q rfl (hE.t rfl) rfl (by assumption); (focus ((repeat constructor); done)); (first | ((focus exact f0); (focus omega)) | ((focus exact f1); (focus omega)) | ((focus assumption); (focus omega)))))
            · rfl
            refine lY (y_eq rfl rfl) rfl ?_
            refine lY (yA rfl) rfl ?_
            refine l_nil (aT ?_)
            refine w_cond_f rfl ?_
            refine w_seq (wR ?_)
            refine lY (yM rfl) rfl ?_
            refine lY (yM rfl) rfl ?_
            refine lY (y_le rfl rfl) rfl ?_
            refine lY (yA rfl) rfl ?_
            refine l_nil (aT ?_)
            refine w_cond_d rfl (fun hc => ?_) (fun hc => ?_)
            · skip
              rw [hrefs]
              refine w_seq (wR ?_)
              apply lL (by kernel_rfl) rfl
              apply ld_call (ct_drop hE (a := A ++ [(jl + 1, 1)]) (sy := jr + 1) (k := 1) (m := 1) (by omega) (by omega) (pair_len (by omega))) rfl (hE.f (by kernel_rfl))
              · ((repeat constructor); done)
              rw [dropG_all]
              rintro _ _ ⟨rfl, rfl⟩
              simp only [List.cons_append, List.nil_append]
              refine l_nil (aT (wR ?_))
              refine lY (yM rfl) rfl ?_
              refine lY (yA rfl) rfl ?_
              refine l_nil (a_block (a_block ?_))
              refine a_round (ι := NrG) (j := ⟨jl, 1, n, A⟩) ?_ ?_ ?_ ?_
              · exact ⟨by show jl ≤ i0; omega, g1, n1, by show n ≤ len (rls Es) (jl + 1); omega, by show A.length ≤ 2 * (i0 - jl); omega, by rw [← st, htp, drop_far (by rw [tx_length, tx_length]; omega) (by rw [tx_length]; omega), tx_length]; simp [rep_zero]⟩
              · show jl < i; omega
              · exact ⟨rfl, rfl, rfl, rfl, rfl, rfl, trivial⟩
              · (apply ent; (repeat constructor); done)
            · skip
              rw [hrefs]
              refine w_seq (wR ?_)
              refine lY (yM rfl) rfl ?_
              refine lY (yM rfl) rfl ?_
              refine lY (y_sub rfl rfl (by omega) (by omega)) rfl ?_
              refine lY (yA rfl) rfl ?_
              refine l_nil (aT (wR ?_))
              refine lY (yM rfl) rfl ?_
              refine lY (yA rfl) rfl ?_
              refine l_nil (a_block (a_block ?_))
              refine wa_eq 2 (.int .i64 ((n - len (rls Es) (jl + 1) : Nat) : Int)) rfl (int_eq (by omega)) ?_
              refine a_round (ι := NrG) (j := ⟨jr, 1, n - len (rls Es) (jl + 1), A ++ [(jl + 1, 1)]⟩) ?_ ?_ ?_ ?_
              · exact ⟨by show jr ≤ i0; omega, g2, by show 1 ≤ n - len (rls Es) (jl + 1); omega, by show n - len (rls Es) (jl + 1) ≤ len (rls Es) (jr + 1); omega, by show (A ++ [_]).length ≤ 2 * (i0 - jr); simp; omega, by rw [← st, htp, drop_near (by rw [tx_length, tx_length]; omega) (by rw [tx_length]; omega), tx_length, tx_length, strm_snoc]; simp [rep_zero, rep_one]⟩
              · show jr < i; omega
              · exact ⟨rfl, rfl, rfl, rfl, rfl, rfl, trivial⟩
              · (apply ent; (repeat constructor); done)
          | false =>
            simp only [Bool.false_eq_true, if_false] at htp
            have hrefs : A ++ refsG false (.pair (jl + 1) (jr + 1)) = A ++ [(jr + 1, 1)] ++ [(jl + 1, 1)] := by simp [refsG]
            skip
            refine lY (yM rfl) rfl ?_
            refine lY (y_extract rfl rfl) rfl ?_
            refine lY (y_extract rfl rfl) rfl ?_
            apply lL (by kernel_rfl) rfl
            refine ld_alloc (hE.t rfl) (fun b10 => ?_)
            apply lL (by kernel_rfl) rfl
            (first | (apply ld_store rfl rfl (hE.t rfl) rfl; (focus ((repeat constructor); done)); (focus rfl); (focus (exact Nat.le_of_ble_eq_true rfl))) | (apply ld_store_sl rfl rfl (hE.t rfl) rfl; (focus ((repeat constructor); done)); (focus rfl); (focus (first | omega | (simp only [cellsL, length_setMany, List.length_cons, List.length_nil]; omega)))))
            refine lY (yA rfl) rfl ?_
            refine l_nil (aT (w_seq (w_draws (by kernel_rfl) ?_)))
            refine lY (yF rfl (hE.t rfl) rfl) rfl ?_
            apply lY
            · (first | (apply y_load rfl (hE.t rfl) rfl; (repeat (first | rfl | assumption | constructor)); done) | exact y_load_old rfl (hE.t rfl) rfl (by assumption) | (apply y_load_ro rfl (hE.t rfl) rfl; (focus ((repeat constructor); done)); (focus assumption)) | (apply y_load_q rfl (hE.t rfl) rfl (by assumption); (focus ((repeat constructor); done)); (first | ((focus exact f0); (focus omega)) | ((focus exact f1); (focus omega)) | ((focus assumption); (focus omega)))))
            · rfl
            refine lY (yF rfl (hE.t rfl) rfl) rfl ?_
            apply lY
            · (first | (apply y_load rfl (hE.t rfl) rfl; (repeat (first | rfl | assumption | constructor)); done) | exact y_load_old rfl (hE.t rfl) rfl (by assumption) | (apply y_load_ro rfl (hE.t rfl) rfl; (focus ((repeat constructor); done)); (focus assumption)) | (apply y_load_q rfl (hE.t rfl) rfl (by assumption); (focus ((repeat constructor); done)); (first | ((focus exact f0); (focus omega)) | ((focus exact f1); (focus omega)) | ((focus assumption); (focus omega)))))
            · rfl
            refine lY (yA rfl) rfl ?_
            refine lY (yA rfl) rfl ?_
            refine l_nil (aT (w_seq (w_seq (wR ?_))))
            refine lY (yM rfl) rfl ?_
            refine lY (yM rfl) rfl ?_
            skip
            refine l_on rfl rfl ?_
            refine lY (yF rfl (hE.t rfl) rfl) rfl ?_
            refine l_on rfl rfl ?_
            apply lY
            · (first | (apply y_load rfl (hE.t rfl) rfl; (repeat (first | rfl | assumption | constructor)); done) | exact y_load_old rfl (hE.t rfl) rfl (by assumption) | (apply y_load_ro rfl (hE.t rfl) rfl; (focus ((repeat constructor); done)); (focus assumption)) | (apply y_load_q rfl (hE.t rfl) rfl (by assumption); (focus ((repeat constructor); done)); (first | ((focus exact f0); (focus omega)) | ((focus exact f1); (focus omega)) | ((focus assumption); (focus omega)))))
            · rfl
            refine l_on rfl rfl ?_
            refine lY (y_eq rfl rfl) rfl ?_
            apply lY
            · (first | exact y_pick_t rfl rfl | exact y_pick_f rfl rfl)
            · rfl
            refine l_nil (aT ?_)
            refine w_cond_f rfl ?_
            have g1 : gok (rls Es) (A ++ [(jr + 1, 1)]) := gok_append.2 ⟨hAok, gok_one.2 ⟨by omega, by rw [rls_length]; omega, hlv.2, by omega, by simp [maxLength]⟩⟩
            have g2 : gok (rls Es) (A ++ [(jr + 1, 1)] ++ [(jl + 1, 1)]) := gok_append.2 ⟨g1, gok_one.2 ⟨by omega, by rw [rls_length]; omega, hlv.1, by omega, by simp [maxLength]⟩⟩
            refine w_skip (aT (w_seq (wR ?_)))
            refine lY (yM rfl) rfl ?_
            refine lY (yM rfl) rfl ?_
            apply lL (by kernel_rfl) rfl
            apply ld_call (ct_size hE (Es := Es) (i := jr) (by omega)) rfl (hE.f (by kernel_rfl))
            · ((repeat constructor); done)
            rintro _ _ ⟨rfl, rfl⟩
            simp only [List.cons_append, List.nil_append]
            refine lY (yA rfl) rfl ?_
            refine l_nil (aT (w_block (w_seq (wR ?_))))
            refine lY (yF rfl (hE.t rfl) rfl) rfl ?_
            apply lY
            · (first | (apply y_load rfl (hE.t rfl) rfl; (repeat (first | rfl | assumption | constructor)); done) | exact y_load_old rfl (hE.t rfl) rfl (by assumption) | (apply y_load_ro rfl (hE.t rfl) rfl; (focus ((repeat constructor); done)); (focus assumption)) | (apply y_load_q rfl (hE.t rfl) rfl (by assumption); (focus ((repeat constructor); done)); (first | ((focus exact f0); (focus omega)) | ((focus exact f1); (focus omega)) | ((focus assumption); (focus omega)))))
            · rfl
            refine lY (y_eq rfl rfl) rfl ?_
            refine lY (yA rfl) rfl ?_
            refine l_nil (aT ?_)
            refine w_cond_f rfl ?_
            refine w_seq (wR ?_)
            refine lY (yM rfl) rfl ?_
            refine lY (yM rfl) rfl ?_
            refine lY (y_le rfl rfl) rfl ?_
            refine lY (yA rfl) rfl ?_
            refine l_nil (aT ?_)
            refine w_cond_d rfl (fun hc => ?_) (fun hc => ?_)
            · skip
              rw [hrefs]
              refine w_seq (wR ?_)
              apply lL (by kernel_rfl) rfl
              apply ld_call (ct_drop hE (a := A ++ [(jr + 1, 1)]) (sy := jl + 1) (k := 1) (m := 1) (by omega) (by omega) (pair_len (by omega))) rfl (hE.f (by kernel_rfl))
              · ((repeat constructor); done)
              rw [dropG_all]
              rintro _ _ ⟨rfl, rfl⟩
              simp only [List.cons_append, List.nil_append]
              refine l_nil (aT (wR ?_))
              refine lY (yM rfl) rfl ?_
              refine lY (yA rfl) rfl ?_
              refine l_nil (a_block (a_block ?_))
              refine a_round (ι := NrG) (j := ⟨jr, 1, n, A⟩) ?_ ?_ ?_ ?_
              · exact ⟨by show jr ≤ i0; omega, g1, n1, by show n ≤ len (rls Es) (jr + 1); omega, by show A.length ≤ 2 * (i0 - jr); omega, by rw [← st, htp, drop_far (by rw [tx_length, tx_length]; omega) (by rw [tx_length]; omega), tx_length]; simp [rep_zero]⟩
              · show jr < i; omega
              · exact ⟨rfl, rfl, rfl, rfl, rfl, rfl, trivial⟩
              · (apply ent; (repeat constructor); done)
            · skip
              rw [hrefs]
              refine w_seq (wR ?_)
              refine lY (yM rfl) rfl ?_
              refine lY (yM rfl) rfl ?_
              refine lY (y_sub rfl rfl (by omega) (by omega)) rfl ?_
              refine lY (yA rfl) rfl ?_
              refine l_nil (aT (wR ?_))
              refine lY (yM rfl) rfl ?_
              refine lY (yA rfl) rfl ?_
              refine l_nil (a_block (a_block ?_))
              refine wa_eq 2 (.int .i64 ((n - len (rls Es) (jr + 1) : Nat) : Int)) rfl (int_eq (by omega)) ?_
              refine a_round (ι := NrG) (j := ⟨jl, 1, n - len (rls Es) (jr + 1), A ++ [(jr + 1, 1)]⟩) ?_ ?_ ?_ ?_
              · exact ⟨by show jl ≤ i0; omega, g2, by show 1 ≤ n - len (rls Es) (jr + 1); omega, by show n - len (rls Es) (jr + 1) ≤ len (rls Es) (jl + 1); omega, by show (A ++ [_]).length ≤ 2 * (i0 - jl); simp; omega, by rw [← st, htp, drop_near (by rw [tx_length, tx_length]; omega) (by rw [tx_length]; omega), tx_length, tx_length, strm_snoc]; simp [rep_zero, rep_one]⟩
              · show jl < i; omega
              · exact ⟨rfl, rfl, rfl, rfl, rfl, rfl, trivial⟩
              · (apply ent; (repeat constructor); done)
      · skip
        have hne : n = len (rls Es) (i + 1) := by omega
        refine w_exit (a_then_exit (a_then_exit (a_block_exit (aT ?_))))
        apply w_open (ps := fun i' : Option Addr × Nat => [cells b9 [.pointer (some ⟨pp, 0, none⟩), .bool bk, .slice i'.1 (a ++ [(i + 1, k)]).length i'.2] 93, sl i'.1 i'.2 138 2 (a ++ [(i + 1, k)]).length (gsC (a ++ [(i + 1, k)]))]) (p := rdP b9 (.pointer (some ⟨pp, 0, none⟩)) bk (a ++ [(i + 1, k)]))
        · ((repeat constructor); done)
        · exact rdP_open
        rintro ⟨p, c⟩
        simp only [List.cons_append, List.nil_append]
        refine w_seq (wR ?_)
        apply lY
        · (first | (apply y_load_agg rfl (hE.t rfl) rfl; (repeat (first | rfl | assumption | constructor)); done) | (apply y_load_agg_old rfl (hE.t rfl) rfl; assumption))
        · rfl
        apply lL (by kernel_rfl) rfl
        (first | (apply ld_store rfl rfl (hE.t rfl) rfl; (focus ((repeat constructor); done)); (focus rfl); (focus (exact Nat.le_of_ble_eq_true rfl))) | (apply ld_store_sl rfl rfl (hE.t rfl) rfl; (focus ((repeat constructor); done)); (focus rfl); (focus (first | omega | (simp only [cellsL, length_setMany, List.length_cons, List.length_nil]; omega)))))
        refine l_nil (aT (w_ret ?_))
        apply a_ret
        · rfl
        · ((apply Rs.cell rfl (hE.t rfl) rfl; (focus ((repeat (first | rfl | assumption | constructor)); done))); exact Rs.nil)
        · refine ⟨p, c, a ++ [(i + 1, k)], rfl, ?_, ok, by simp; omega, rfl⟩
          rw [← st, strm_snoc, hne, Nat.sub_self, List.drop_zero, ← List.append_assoc]
          have hk1 := (gok_one.1 (gok_append.1 ok).2).2.2.2.1
          congr 1
          rw [show k = (k - 1) + 1 by omega, rep_succ, Nat.add_sub_cancel]
        · (apply ent; (repeat constructor); done)
    · exact absurd n1 (by omega)
  · exact absurd hn1 (by omega)
end Go.Proofs.YtekhbjlplfbdkaaDoor
namespace Eg
def lcp : List UInt8 → List UInt8 → Nat
  | a :: x, b :: y => if a = b then lcp x y + 1 else 0
  | _, _ => 0
theorem lcp_nil_left (y : List UInt8) : lcp [] y = 0 := by unfold lcp; rfl
theorem lcp_nil_right (x : List UInt8) : lcp x [] = 0 := by cases x <;> rfl
theorem lcp_append (u x y : List UInt8) : lcp (u ++ x) (u ++ y) = u.length + lcp x y := by
  induction u with
  | nil => simp
  | cons a u ih => simp [lcp, ih]; omega
theorem lcp_ne {a b : UInt8} (h : a ≠ b) (x y : List UInt8) : lcp (a :: x) (b :: y) = 0 := by simp [lcp, h]
theorem leap_once {W A R u : List UInt8} {t a : Nat} (ha : a ≤ t) (h : W ++ (rep t A ++ R) = u ++ (W ++ (rep (t - a) A ++ R))) (m : Nat) (hm : a ≤ m) : W ++ (rep m A ++ R) = u ++ (W ++ (rep (m - a) A ++ R)) := by
  have e1 : W ++ rep a A = u ++ W := by
    have h' : (W ++ rep a A) ++ (rep (t - a) A ++ R) = (u ++ W) ++ (rep (t - a) A ++ R) := by
      rw [List.append_assoc, List.append_assoc u, ← h]
      congr 1
      rw [← List.append_assoc, ← rep_add, Nat.add_sub_cancel' ha]
    exact List.append_cancel_right h'
  calc W ++ (rep m A ++ R) = (W ++ rep a A) ++ (rep (m - a) A ++ R) := by
        rw [List.append_assoc]
        congr 1
        rw [← List.append_assoc, ← rep_add, Nat.add_sub_cancel' hm]
    _ = u ++ (W ++ (rep (m - a) A ++ R)) := by rw [e1, List.append_assoc]
theorem leap_many {W A R u : List UInt8} {t a : Nat} (ha : a ≤ t) (h : W ++ (rep t A ++ R) = u ++ (W ++ (rep (t - a) A ++ R))) (k m : Nat) (hm : k * a ≤ m) : W ++ (rep m A ++ R) = rep k u ++ (W ++ (rep (m - k * a) A ++ R)) := by
  induction k generalizing m with
  | zero => simp [rep_zero]
  | succ k ih =>
    rw [Nat.add_mul] at hm
    rw [leap_once ha h m (by omega), ih (m - a) (by omega), rep_succ, List.append_assoc]
    congr 4
    rw [Nat.add_mul, Nat.one_mul]
    congr 1
    omega
def cost (L : List Rl) : List (Nat × Nat) → Nat
  | [] => 0
  | g :: r => g.2 * (2 * len L g.1 - 1) + cost L r
theorem cost_append (L : List Rl) (a b : List (Nat × Nat)) : cost L (a ++ b) = cost L a + cost L b := by
  induction a with
  | nil => simp [cost]
  | cons g a ih => simp [cost, ih]; omega
theorem cost_one (L : List Rl) (s k : Nat) : cost L [(s, k)] = k * (2 * len L s - 1) := by simp [cost]
def Fw (bf nw : List (Nat × Nat)) (i a : Nat) : Prop :=
  (a = 0 ∧ bf = nw) ∨ (1 ≤ a ∧ ∃ A s t B, bf = A ++ (s, t) :: B ∧ nw = A ++ (s, t - a) :: B ∧ i = A.length ∧ a ≤ t)
theorem Fw.snoc_same {bf nw : List (Nat × Nat)} {i a : Nat} (h : Fw bf nw i a) (g : Nat × Nat) : Fw (bf ++ [g]) (nw ++ [g]) i a := by
  rcases h with ⟨h1, h2⟩ | ⟨h1, A, s, t, B, h2, h3, h4, h5⟩
  · exact .inl ⟨h1, by rw [h2]⟩
  · exact .inr ⟨h1, A, s, t, B ++ [g], by simp [h2], by simp [h3], h4, h5⟩
theorem Fw.snoc_less {bf nw : List (Nat × Nat)} {i : Nat} (h : Fw bf nw i 0) {s t u : Nat} (hu : u < t) : Fw (bf ++ [(s, t)]) (nw ++ [(s, u)]) nw.length (t - u) := by
  rcases h with ⟨_, h2⟩ | ⟨h1, _⟩
  · exact .inr ⟨by omega, bf, s, t, [], rfl, by rw [h2, show t - (t - u) = u by omega], by rw [h2], by omega⟩
  · omega
theorem strm_mid (L : List Rl) (bk : Bool) (A B : List (Nat × Nat)) (s t : Nat) : strm L bk (A ++ (s, t) :: B) = strm L bk B ++ (rep t (tx L bk s) ++ strm L bk A) := by
  rw [show A ++ (s, t) :: B = A ++ ([(s, t)] ++ B) by simp, strm_append, strm_append, strm_one, List.append_assoc]
theorem leap_side {L : List Rl} {bk : Bool} {A B : List (Nat × Nat)} {s t a k : Nat} {u : List UInt8} (ha : a ≤ t) (h : strm L bk (A ++ (s, t) :: B) = u ++ strm L bk (A ++ (s, t - a) :: B)) (hk : k * a ≤ t - a) :
    strm L bk (A ++ (s, t - a) :: B) = rep k u ++ strm L bk (A ++ (s, t - a - k * a) :: B) := by
  rw [strm_mid, strm_mid] at *
  exact leap_many ha h k (t - a) hk
end Eg
namespace Go.Proofs.YtekhbjlplfbdkaaDoor
open Go Go.RowKit Sl Eg
set_option maxRecDepth 10000
variable {E : Env} {Es : List Ent} {pp tb s most : Nat}
def FwPost (p1 : Option Addr) (c1 : Nat) (bf : List (Nat × Nat)) (p2 : Option Addr) (c2 : Nat) (nw : List (Nat × Nat)) (v : Value) (Q : List HP) : Prop :=
  ∃ (i a : Nat) (b : Bool), v = .tuple #[.int .i64 (i : Nat), .int .i64 (a : Nat), .bool b] ∧ (b = true → 1 ≤ a ∧ Fw bf nw i a) ∧ Q = [sl p1 c1 138 2 bf.length (gsC bf), sl p2 c2 138 2 nw.length (gsC nw)]
structure FwG where
  k : Nat
  i : Nat
  a : Nat
theorem ct_fewer (hE : Seat E) {p1 p2 : Option Addr} {c1 c2 : Nat} {bf nw : List (Nat × Nat)} (hb : ∀ g ∈ bf, g.2 ≤ 1152921504606846976) (hn : ∀ g ∈ nw, g.2 ≤ 1152921504606846976) (hl1 : bf.length < 1099511627776) (hl2 : nw.length < 1099511627776) :
    Ct E 92 [.slice p1 bf.length c1, .slice p2 nw.length c2] [sl p1 c1 138 2 bf.length (gsC bf), sl p2 c2 138 2 nw.length (gsC nw)] (FwPost p1 c1 bf p2 c2 nw) := by
  refine fn_enter (hE.fn Tryd.func92) rfl rfl rfl (fun R => ?_)
  simp only [argsL, List.cons_append, List.nil_append]
  refine w_seq (wR ?_)
  refine lY (yA rfl) rfl ?_
  refine lY (yA rfl) rfl ?_
  refine lY (yA rfl) rfl ?_
  refine l_nil (aT (w_seq (w_seq (wR ?_))))
  refine lY (yM rfl) rfl ?_
  refine lY (y_len_slice rfl (hE.t rfl)) rfl ?_
  refine lY (yM rfl) rfl ?_
  refine lY (y_len_slice rfl (hE.t rfl)) rfl ?_
  refine lY (y_ne rfl rfl) rfl ?_
  refine l_nil (aT ?_)
  refine w_cond_d rfl (fun hne => ?_) (fun hne => ?_)
  · skip
    refine w_seq (wR ?_)
    refine lY (yA rfl) rfl ?_
    refine lY (yA rfl) rfl ?_
    refine lY (yA rfl) rfl ?_
    refine l_nil (aT (w_ret (a_then_ret ?_)))
    apply a_ret
    · rfl
    · (apply Rs.tmp rfl; apply Rs.tmp rfl; apply Rs.tmp rfl; exact Rs.nil)
    · exact ⟨0, 0, false, rfl, fun h => (by cases h), rfl⟩
    · (apply ent; (repeat constructor); done)
  · skip
    have hlen : bf.length = nw.length := by omega
    refine w_skip (aT (w_seq (w_seq (wR ?_))))
    refine lY (yM rfl) rfl ?_
    refine lY (y_len_slice rfl (hE.t rfl)) rfl ?_
    refine lY (yM rfl) rfl ?_
    refine l_nil (aT (w_block ?_))
    skip
    refine w_loop (fun x : FwG => [(0, .slice p1 bf.length c1), (1, .slice p2 nw.length c2), (4, .int .i64 (x.i : Nat)), (5, .int .i64 (x.a : Nat)), (6, .bool false), (15, .slice p2 nw.length c2), (16, .int .i64 (nw.length : Nat)), (17, .int .i64 (x.k : Nat))]) (fun _ => [sl p1 c1 138 2 bf.length (gsC bf), sl p2 c2 138 2 nw.length (gsC nw), R]) (fun x => nw.length - x.k) (fun x => x.k ≤ nw.length ∧ x.a ≤ 1152921504606846976 ∧ Fw (bf.take x.k) (nw.take x.k) x.i x.a) ⟨0, 0, 0⟩ ?_ ?_ ?_ ?_
    · exact ⟨Nat.zero_le _, Nat.zero_le _, .inl ⟨rfl, rfl⟩⟩
    · exact ⟨rfl, rfl, rfl, rfl, rfl, rfl, rfl, rfl, trivial⟩
    · (apply ent; (repeat constructor); done)
    rintro ⟨k, i, a⟩ ⟨hk, hale, hfw⟩
    simp only at hk hale hfw ⊢
    skip
    refine w_seq (wR ?_)
    refine lY (y_lt rfl rfl) rfl ?_
    refine l_nil (aT (w_seq ?_))
    refine w_cond_d rfl (fun hlt => ?_) (fun hlt => ?_)
    · skip
      have hkn : k < nw.length := by omega
      have hkb : k < bf.length := by omega
      obtain ⟨⟨sn, tn⟩, hgn⟩ : ∃ g, nw[k]? = some g := ⟨_, List.getElem?_eq_getElem hkn⟩
      obtain ⟨⟨sb, tb'⟩, hgb⟩ : ∃ g, bf[k]? = some g := ⟨_, List.getElem?_eq_getElem hkb⟩
      have htn := hn _ (List.mem_of_getElem? hgn)
      have htb := hb _ (List.mem_of_getElem? hgb)
      simp only at htn htb
      refine w_say (p := sl p1 c1 138 2 bf.length (gsC bf)) (by ((repeat constructor); done)) (fun _ h => sl_form h (by omega)) ?_
      rintro ⟨g1, rfl⟩
      refine w_say (p := sl p2 c2 138 2 nw.length (gsC nw)) (by ((repeat constructor); done)) (fun _ h => sl_form h (by omega)) ?_
      rintro ⟨g2, rfl⟩
      have f0 : (gsC nw)[0 + ((k : Nat) : Int).toNat * 2]? = some (.int .i64 (sn : Nat)) := by rw [show 0 + ((k : Nat) : Int).toNat * 2 = k * 2 by omega]; exact (gsC_get hgn).1
      have f1 : (gsC nw)[0 + ((k : Nat) : Int).toNat * 2 + 1]? = some (.int .i64 (tn : Nat)) := by rw [show 0 + ((k : Nat) : Int).toNat * 2 + 1 = k * 2 + 1 by omega]; exact (gsC_get hgn).2
      have f2 : (gsC bf)[0 + ((k : Nat) : Int).toNat * 2 + 0]? = some (.int .i64 (sb : Nat)) := by rw [show 0 + ((k : Nat) : Int).toNat * 2 + 0 = k * 2 by omega]; exact (gsC_get hgb).1
      have f3 : (gsC bf)[0 + ((k : Nat) : Int).toNat * 2 + 1]? = some (.int .i64 (tb' : Nat)) := by rw [show 0 + ((k : Nat) : Int).toNat * 2 + 1 = k * 2 + 1 by omega]; exact (gsC_get hgb).2
      have e1 : bf.take (k + 1) = bf.take k ++ [(sb, tb')] := by rw [List.take_add_one, hgb]; rfl
      have e2 : nw.take (k + 1) = nw.take k ++ [(sn, tn)] := by rw [List.take_add_one, hgn]; rfl
      have e3 : (nw.take k).length = k := by simp; omega
      refine w_skip (aT (w_seq (w_block (w_seq (wR ?_)))))
      refine lY (yM rfl) rfl ?_
      refine lY (y_indexAddr rfl rfl (hE.t rfl) (by omega) (by omega)) rfl ?_
      apply lY
      · (apply y_load_agg rfl (hE.t rfl) rfl; (repeat (first | rfl | assumption | constructor)); done)
      · rfl
      apply lL (by kernel_rfl) rfl
      refine ld_alloc (hE.t rfl) (fun b8 => ?_)
      refine lY (yA rfl) rfl ?_
      apply lL (by kernel_rfl) rfl
      (first | (apply ld_store rfl rfl (hE.t rfl) rfl; (focus ((repeat constructor); done)); (focus rfl); (focus (exact Nat.le_of_ble_eq_true rfl))) | (apply ld_store_sl rfl rfl (hE.t rfl) rfl; (focus ((repeat constructor); done)); (focus rfl); (focus (first | omega | (simp only [cellsL, length_setMany, List.length_cons, List.length_nil]; omega)))))
      refine l_nil (aT (w_seq (w_draws (by kernel_rfl) ?_)))
      refine lY (yM rfl) rfl ?_
      refine lY (yM rfl) rfl ?_
      refine lY (y_indexAddr rfl rfl (hE.t rfl) (by omega) (by omega)) rfl ?_
      refine lY (yF rfl (hE.t rfl) rfl) rfl ?_
      apply lY
      · (apply y_load rfl (hE.t rfl) rfl; (repeat (first | rfl | assumption | constructor)); done)
      · rfl
      refine lY (yF rfl (hE.t rfl) rfl) rfl ?_
      apply lY
      · (apply y_load rfl (hE.t rfl) rfl; (repeat (first | rfl | assumption | constructor)); done)
      · rfl
      refine lY (y_sub rfl rfl (by omega) (by omega)) rfl ?_
      refine lY (yA rfl) rfl ?_
      refine l_nil (aT (w_block (w_seq (w_draws (by kernel_rfl) ?_))))
      refine lY (yM rfl) rfl ?_
      refine lY (yM rfl) rfl ?_
      refine lY (y_indexAddr rfl rfl (hE.t rfl) (by omega) (by omega)) rfl ?_
      refine lY (yF rfl (hE.t rfl) rfl) rfl ?_
      apply lY
      · (apply y_load rfl (hE.t rfl) rfl; (repeat (first | rfl | assumption | constructor)); done)
      · rfl
      refine lY (yF rfl (hE.t rfl) rfl) rfl ?_
      apply lY
      · (apply y_load rfl (hE.t rfl) rfl; (repeat (first | rfl | assumption | constructor)); done)
      · rfl
      refine lY (y_ne rfl rfl) rfl ?_
      refine lY (yM rfl) rfl ?_
      refine l_split 39 rfl (fun hs => ?_) (fun hs => ?_)
      · skip
        refine l_off rfl rfl rfl rfl (l_off rfl rfl rfl rfl ?_)
        apply lY
        · (first | exact y_pick_t rfl rfl | exact y_pick_f rfl rfl)
        · rfl
        refine lY (yM rfl) rfl ?_
        skip
        refine l_off rfl rfl rfl rfl (l_off rfl rfl rfl rfl (l_off rfl rfl rfl rfl (l_off_u rfl rfl rfl (l_off_u rfl rfl rfl (l_off rfl rfl rfl rfl ?_)))))
        apply lY
        · (first | exact y_pick_t rfl rfl | exact y_pick_f rfl rfl)
        · rfl
        refine lY (yA rfl) rfl ?_
        refine l_nil (aT ?_)
        refine w_cond_t rfl ?_
        refine w_seq (wR ?_)
        refine lY (yA rfl) rfl ?_
        refine lY (yA rfl) rfl ?_
        refine lY (yA rfl) rfl ?_
        refine l_nil (aT (w_ret (a_block_ret (a_block_ret (a_then_ret (a_then_ret (a_block_ret ?_)))))))
        refine a_then_ret ?_
        apply a_ret
        · rfl
        · (apply Rs.tmp rfl; apply Rs.tmp rfl; apply Rs.tmp rfl; exact Rs.nil)
        · exact ⟨0, 0, false, rfl, fun h => (by cases h), rfl⟩
        · (apply ent; (repeat constructor); done)
      · skip
        have hss : sb = sn := by omega
        refine l_on rfl rfl ?_
        refine lY (yM rfl) rfl ?_
        refine l_on rfl rfl ?_
        refine lY (y_lt rfl rfl) rfl ?_
        apply lY
        · (first | exact y_pick_t rfl rfl | exact y_pick_f rfl rfl)
        · rfl
        refine lY (yM rfl) rfl ?_
        refine l_split 43 rfl (fun hl => ?_) (fun hl => ?_)
        · skip
          refine l_off rfl rfl rfl rfl (l_off rfl rfl rfl rfl (l_off rfl rfl rfl rfl (l_off_u rfl rfl rfl (l_off_u rfl rfl rfl (l_off rfl rfl rfl rfl ?_)))))
          apply lY
          · (first | exact y_pick_t rfl rfl | exact y_pick_f rfl rfl)
          · rfl
          refine lY (yA rfl) rfl ?_
          refine l_nil (aT ?_)
          refine w_cond_t rfl ?_
          refine w_seq (wR ?_)
          refine lY (yA rfl) rfl ?_
          refine lY (yA rfl) rfl ?_
          refine lY (yA rfl) rfl ?_
          refine l_nil (aT (w_ret (a_block_ret (a_block_ret (a_then_ret (a_then_ret (a_block_ret ?_)))))))
          refine a_then_ret ?_
          apply a_ret
          · rfl
          · (apply Rs.tmp rfl; apply Rs.tmp rfl; apply Rs.tmp rfl; exact Rs.nil)
          · exact ⟨0, 0, false, rfl, fun h => (by cases h), rfl⟩
          · (apply ent; (repeat constructor); done)
        · skip
          refine l_on rfl rfl ?_
          refine lY (yM rfl) rfl ?_
          refine l_on rfl rfl ?_
          refine lY (y_gt rfl rfl) rfl ?_
          refine l_on rfl rfl ?_
          refine lY (yM rfl) rfl ?_
          refine l_split 46 rfl (fun hg => ?_) (fun hg => ?_)
          · skip
            refine l_on rfl rfl ?_
            refine lY (yM rfl) rfl ?_
            refine l_on rfl rfl ?_
            refine lY (y_gt rfl rfl) rfl ?_
            refine l_on rfl rfl ?_
            apply lY
            · (first | exact y_pick_t rfl rfl | exact y_pick_f rfl rfl)
            · rfl
            apply lY
            · (first | exact y_pick_t rfl rfl | exact y_pick_f rfl rfl)
            · rfl
            refine lY (yA rfl) rfl ?_
            refine l_nil (aT ?_)
            refine w_cond_d rfl (fun ha => ?_) (fun ha => ?_)
            · skip
              refine w_seq (wR ?_)
              refine lY (yA rfl) rfl ?_
              refine lY (yA rfl) rfl ?_
              refine lY (yA rfl) rfl ?_
              refine l_nil (aT (w_ret (a_block_ret (a_block_ret (a_then_ret (a_then_ret (a_block_ret ?_)))))))
              refine a_then_ret ?_
              apply a_ret
              · rfl
              · (apply Rs.tmp rfl; apply Rs.tmp rfl; apply Rs.tmp rfl; exact Rs.nil)
              · exact ⟨0, 0, false, rfl, fun h => (by cases h), rfl⟩
              · (apply ent; (repeat constructor); done)
            · skip
              obtain rfl : a = 0 := by omega
              refine w_seq (wR ?_)
              refine lY (yM rfl) rfl ?_
              refine lY (y_gt rfl rfl) rfl ?_
              refine lY (yA rfl) rfl ?_
              refine l_nil (aT ?_)
              refine w_cond_d rfl (fun hg2 => ?_) (fun hg2 => ?_)
              · skip
                refine wR ?_
                refine lY (yM rfl) rfl ?_
                refine lY (yM rfl) rfl ?_
                refine lY (yA rfl) rfl ?_
                refine lY (yA rfl) rfl ?_
                refine l_nil (a_block (a_block (aT (wR ?_))))
                refine lY (y_add rfl rfl (by omega) (by omega)) rfl ?_
                refine lY (yM rfl) rfl ?_
                refine l_nil ?_
                refine wa_eq 5 (.int .i64 ((tb' - tn : Nat) : Int)) rfl (int_eq (by omega)) ?_
                refine a_round (ι := FwG) (j := ⟨k + 1, k, tb' - tn⟩) ?_ ?_ ?_ ?_
                · refine ⟨by show k + 1 ≤ _; omega, by show tb' - tn ≤ _; omega, ?_⟩
                  simp only
                  rw [e1, e2, hss]
                  have := hfw.snoc_less (s := sn) (t := tb') (u := tn) (by omega)
                  rwa [e3] at this
                · show nw.length - (k + 1) < nw.length - k; omega
                · exact ⟨rfl, rfl, rfl, rfl, rfl, rfl, rfl, rfl, trivial⟩
                · (apply ent; (repeat constructor); done)
              · exact absurd hg hg2
          · skip
            refine l_off rfl rfl rfl rfl (l_off rfl rfl rfl rfl (l_on rfl rfl ?_))
            apply lY
            · (first | exact y_pick_t rfl rfl | exact y_pick_f rfl rfl)
            · rfl
            apply lY
            · (first | exact y_pick_t rfl rfl | exact y_pick_f rfl rfl)
            · rfl
            refine lY (yA rfl) rfl ?_
            refine l_nil (aT ?_)
            refine w_cond_f rfl ?_
            refine w_seq (wR ?_)
            refine lY (yM rfl) rfl ?_
            refine lY (y_gt rfl rfl) rfl ?_
            refine lY (yA rfl) rfl ?_
            refine l_nil (aT ?_)
            refine w_cond_d rfl (fun hg2 => ?_) (fun hg2 => ?_)
            · exact absurd hg2 hg
            · skip
              obtain rfl : tb' = tn := by omega
              refine w_skip (a_block (a_block (aT (wR ?_))))
              refine lY (y_add rfl rfl (by omega) (by omega)) rfl ?_
              refine lY (yM rfl) rfl ?_
              refine l_nil ?_
              refine a_round (ι := FwG) (j := ⟨k + 1, i, a⟩) ?_ ?_ ?_ ?_
              · refine ⟨by show k + 1 ≤ _; omega, hale, ?_⟩
                simp only
                rw [e1, e2, hss]
                exact hfw.snoc_same _
              · show nw.length - (k + 1) < nw.length - k; omega
              · exact ⟨rfl, rfl, rfl, rfl, rfl, rfl, rfl, rfl, trivial⟩
              · (apply ent; (repeat constructor); done)
    · skip
      refine w_exit (a_then_exit (a_then_exit (a_block_exit (aT (w_seq (wR ?_))))))
      refine lY (yM rfl) rfl ?_
      refine lY (yM rfl) rfl ?_
      refine lY (yM rfl) rfl ?_
      refine lY (y_gt rfl rfl) rfl ?_
      refine lY (yA rfl) rfl ?_
      refine lY (yA rfl) rfl ?_
      refine lY (yA rfl) rfl ?_
      refine l_nil (aT (w_ret ?_))
      apply a_ret
      · rfl
      · (apply Rs.tmp rfl; apply Rs.tmp rfl; apply Rs.tmp rfl; exact Rs.nil)
      · refine ⟨i, a, decide (0 < (a : Int)), rfl, fun h => ⟨by simp at h; omega, ?_⟩, rfl⟩
        rw [List.take_of_length_le (by omega), List.take_of_length_le (by omega)] at hfw
        exact hfw
      · (apply ent; (repeat constructor); done)
end Go.Proofs.YtekhbjlplfbdkaaDoor
namespace Go.Proofs.YtekhbjlplfbdkaaDoor
open Go Go.RowKit Sl Eg
set_option maxRecDepth 10000
variable {E : Env} {Es : List Ent} {pp tb s most : Nat}
def LpPost (L : List Rl) (bk : Bool) (p1 : Option Addr) (c1 : Nat) (mx : List (Nat × Nat)) (p2 : Option Addr) (c2 : Nat) (my : List (Nat × Nat)) (p3 : Option Addr) (c3 : Nat) (gx : List (Nat × Nat)) (p4 : Option Addr) (c4 : Nat) (gy : List (Nat × Nat)) (v : Value) (Q : List HP) : Prop :=
  ∃ gx' gy' w, v = .int .i64 (w.length : Nat) ∧ strm L bk gx = w ++ strm L bk gx' ∧ strm L bk gy = w ++ strm L bk gy' ∧ gok L gx' ∧ gok L gy' ∧ gx'.length = gx.length ∧ gy'.length = gy.length ∧ cost L gx' ≤ cost L gx ∧ cost L gy' ≤ cost L gy ∧
    Q = [sl p1 c1 138 2 mx.length (gsC mx), sl p2 c2 138 2 my.length (gsC my), sl p3 c3 138 2 gx'.length (gsC gx'), sl p4 c4 138 2 gy'.length (gsC gy')]
theorem gok_le {L : List Rl} {gs : List (Nat × Nat)} (h : gok L gs) : ∀ g ∈ gs, g.2 ≤ 1152921504606846976 := fun g hg => (h g hg).2.2.2.2
theorem gok_mid {L : List Rl} {A B : List (Nat × Nat)} {s t u : Nat} (h : gok L (A ++ (s, t) :: B)) (h1 : 1 ≤ u) (h2 : u ≤ t) : gok L (A ++ (s, u) :: B) := by
  intro g hg
  simp at hg
  rcases hg with hg | rfl | hg
  · exact h g (by simp [hg])
  · have := h (s, t) (by simp)
    exact ⟨this.1, this.2.1, this.2.2.1, h1, Nat.le_trans h2 this.2.2.2.2⟩
  · exact h g (by simp [hg])
theorem cost_mid {L : List Rl} {A B : List (Nat × Nat)} {s t u : Nat} (h : u ≤ t) : cost L (A ++ (s, u) :: B) ≤ cost L (A ++ (s, t) :: B) := by
  rw [cost_append, cost_append]
  simp only [cost]
  have := Nat.mul_le_mul_right (2 * len L s - 1) h
  omega
theorem set_mid {A B : List (Nat × Nat)} {s t u : Nat} : (A ++ (s, t) :: B).set A.length (s, u) = A ++ (s, u) :: B := by simp
theorem get_mid {A B : List (Nat × Nat)} {s t : Nat} : (A ++ (s, t) :: B)[A.length]? = some (s, t) := by simp
theorem ct_leap (hE : Seat E) {L : List Rl} {bk bk1 bk2 : Bool} {pv1 pv2 : Value} {p1 p2 p3 p4 : Option Addr} {c1 c2 c3 c4 m0 sum : Nat} {mx my gx gy : List (Nat × Nat)} {u : List UInt8} (hmx : gok L mx) (hmy : gok L my) (hgx : gok L gx) (hgy : gok L gy)
    (hl1 : mx.length < 1099511627776) (hl2 : my.length < 1099511627776) (hl3 : gx.length < 1099511627776) (hl4 : gy.length < 1099511627776)
    (hux : strm L bk mx = u ++ strm L bk gx) (huy : strm L bk my = u ++ strm L bk gy) (hul : u.length + m0 = sum) (hsum : sum ≤ 1152921504606846976) (hlen : (strm L bk gx).length ≤ 1152921504606846976) :
    Ct E 69 [.agg #[.slice p1 mx.length c1, .slice p2 my.length c2, .int .i64 (m0 : Nat)], .agg #[pv1, .bool bk1, .slice p3 gx.length c3], .agg #[pv2, .bool bk2, .slice p4 gy.length c4], .int .i64 (sum : Nat)]
      [sl p1 c1 138 2 mx.length (gsC mx), sl p2 c2 138 2 my.length (gsC my), sl p3 c3 138 2 gx.length (gsC gx), sl p4 c4 138 2 gy.length (gsC gy)] (LpPost L bk p1 c1 mx p2 c2 my p3 c3 gx p4 c4 gy) := by
  refine fn_enter (hE.fn Tryd.func69) rfl rfl rfl (fun R => ?_)
  simp only [argsL, List.cons_append, List.nil_append]
  refine w_seq (wR ?_)
  apply lL (by kernel_rfl) rfl
  refine ld_box rfl (fun b4 => ?_)
  apply lL (by kernel_rfl) rfl
  refine ld_box rfl (fun b5 => ?_)
  apply lL (by kernel_rfl) rfl
  refine ld_box rfl (fun b6 => ?_)
  refine lY (yA rfl) rfl ?_
  refine l_nil (aT (w_seq (wR ?_)))
  refine lY (yF rfl (hE.t rfl) rfl) rfl ?_
  apply lY
  · (first | (apply y_load rfl (hE.t rfl) rfl; (repeat (first | rfl | assumption | constructor)); done) | exact y_load_old rfl (hE.t rfl) rfl (by assumption) | (apply y_load_ro rfl (hE.t rfl) rfl; (focus ((repeat constructor); done)); (focus assumption)) | (apply y_load_q rfl (hE.t rfl) rfl (by assumption); (focus ((repeat constructor); done)); (first | ((focus exact f0); (focus omega)) | ((focus exact f1); (focus omega)) | ((focus assumption); (focus omega)))))
  · rfl
  refine lY (yF rfl (hE.t rfl) rfl) rfl ?_
  apply lY
  · (first | (apply y_load rfl (hE.t rfl) rfl; (repeat (first | rfl | assumption | constructor)); done) | exact y_load_old rfl (hE.t rfl) rfl (by assumption) | (apply y_load_ro rfl (hE.t rfl) rfl; (focus ((repeat constructor); done)); (focus assumption)) | (apply y_load_q rfl (hE.t rfl) rfl (by assumption); (focus ((repeat constructor); done)); (first | ((focus exact f0); (focus omega)) | ((focus exact f1); (focus omega)) | ((focus assumption); (focus omega)))))
  · rfl
  apply lL (by kernel_rfl) rfl
  apply ld_call (ct_fewer hE (gok_le hmx) (gok_le hgx) hl1 hl3) rfl (hE.f (by kernel_rfl))
  · ((repeat constructor); done)
  rintro _ _ ⟨i, a, b, rfl, hf1, rfl⟩
  simp only [List.cons_append, List.nil_append]
  cases b with
  | false =>
    skip
    refine lY (yM rfl) rfl ?_
    refine lY (y_extract rfl rfl) rfl ?_
    refine lY (y_extract rfl rfl) rfl ?_
    refine lY (y_extract rfl rfl) rfl ?_
    refine lY (yA rfl) rfl ?_
    refine lY (yA rfl) rfl ?_
    refine lY (yA rfl) rfl ?_
    refine l_nil (aT (w_seq (w_seq (wR ?_))))
    refine lY (yM rfl) rfl ?_
    refine lY (y_not rfl) rfl ?_
    refine l_nil (aT ?_)
    refine w_cond_t rfl ?_
    refine w_seq (wR ?_)
    refine lY (yA rfl) rfl ?_
    refine l_nil (aT (w_ret (a_then_ret ?_)))
    apply a_ret
    · rfl
    · (apply Rs.tmp rfl; exact Rs.nil)
    · exact ⟨gx, gy, [], rfl, rfl, rfl, hgx, hgy, rfl, rfl, Nat.le_refl _, Nat.le_refl _, rfl⟩
    · (apply ent; (repeat constructor); done)
  | true =>
    skip
    refine lY (yM rfl) rfl ?_
    refine lY (y_extract rfl rfl) rfl ?_
    refine lY (y_extract rfl rfl) rfl ?_
    refine lY (y_extract rfl rfl) rfl ?_
    refine lY (yA rfl) rfl ?_
    refine lY (yA rfl) rfl ?_
    refine lY (yA rfl) rfl ?_
    refine l_nil (aT (w_seq (w_seq (wR ?_))))
    refine lY (yM rfl) rfl ?_
    refine lY (y_not rfl) rfl ?_
    refine l_nil (aT ?_)
    refine w_cond_f rfl ?_
    refine w_skip (aT (w_seq (wR ?_)))
    refine lY (yF rfl (hE.t rfl) rfl) rfl ?_
    apply lY
    · (first | (apply y_load rfl (hE.t rfl) rfl; (repeat (first | rfl | assumption | constructor)); done) | exact y_load_old rfl (hE.t rfl) rfl (by assumption) | (apply y_load_ro rfl (hE.t rfl) rfl; (focus ((repeat constructor); done)); (focus assumption)) | (apply y_load_q rfl (hE.t rfl) rfl (by assumption); (focus ((repeat constructor); done)); (first | ((focus exact f0); (focus omega)) | ((focus exact f1); (focus omega)) | ((focus assumption); (focus omega)))))
    · rfl
    refine lY (yF rfl (hE.t rfl) rfl) rfl ?_
    apply lY
    · (first | (apply y_load rfl (hE.t rfl) rfl; (repeat (first | rfl | assumption | constructor)); done) | exact y_load_old rfl (hE.t rfl) rfl (by assumption) | (apply y_load_ro rfl (hE.t rfl) rfl; (focus ((repeat constructor); done)); (focus assumption)) | (apply y_load_q rfl (hE.t rfl) rfl (by assumption); (focus ((repeat constructor); done)); (first | ((focus exact f0); (focus omega)) | ((focus exact f1); (focus omega)) | ((focus assumption); (focus omega)))))
    · rfl
    apply lL (by kernel_rfl) rfl
    apply ld_call (ct_fewer hE (gok_le hmy) (gok_le hgy) hl2 hl4) rfl (hE.f (by kernel_rfl))
    · ((repeat constructor); done)
    rintro _ _ ⟨j, b', b, rfl, hf2, rfl⟩
    simp only [List.cons_append, List.nil_append]
    cases b with
    | false =>
      skip
      refine lY (yM rfl) rfl ?_
      refine lY (y_extract rfl rfl) rfl ?_
      refine lY (y_extract rfl rfl) rfl ?_
      refine lY (y_extract rfl rfl) rfl ?_
      refine lY (yA rfl) rfl ?_
      refine lY (yA rfl) rfl ?_
      refine lY (yA rfl) rfl ?_
      refine l_nil (aT (w_seq (w_seq (wR ?_))))
      refine lY (yM rfl) rfl ?_
      refine lY (y_not rfl) rfl ?_
      refine l_nil (aT ?_)
      refine w_cond_t rfl ?_
      refine w_seq (wR ?_)
      refine lY (yA rfl) rfl ?_
      refine l_nil (aT (w_ret (a_then_ret ?_)))
      apply a_ret
      · rfl
      · (apply Rs.tmp rfl; exact Rs.nil)
      · exact ⟨gx, gy, [], rfl, rfl, rfl, hgx, hgy, rfl, rfl, Nat.le_refl _, Nat.le_refl _, rfl⟩
      · (apply ent; (repeat constructor); done)
    | true =>
      obtain ⟨ha, hf1⟩ := hf1 rfl
      obtain ⟨hb, hf2⟩ := hf2 rfl
      rcases hf1 with ⟨h0, _⟩ | ⟨_, A, s1, t1, B, rfl, rfl, rfl, hat⟩
      · omega
      rcases hf2 with ⟨h0, _⟩ | ⟨_, A2, s2, t2, B2, rfl, rfl, rfl, hbt⟩
      · omega
      have g1 := (hgx (s1, t1 - a) (by simp)).2.2.2
      have g2 := (hgy (s2, t2 - b') (by simp)).2.2.2
      unfold maxLength at g1 g2
      simp only at g1 g2
      obtain ⟨k, hk⟩ : ∃ k, k = min ((t1 - a - 1) / a) ((t2 - b' - 1) / b') := ⟨_, rfl⟩
      have hk1 : k * a ≤ t1 - a - 1 := Nat.le_trans (Nat.mul_le_mul_right a (by omega)) (Nat.div_mul_le_self _ _)
      have hk2 : k * b' ≤ t2 - b' - 1 := Nat.le_trans (Nat.mul_le_mul_right b' (by omega)) (Nat.div_mul_le_self _ _)
      have hx := leap_side (k := k) hat hux (by omega)
      have hy := leap_side (k := k) hbt huy (by omega)
      have hku : k * u.length ≤ 1152921504606846976 := by
        rw [hx, List.length_append, rep_length] at hlen; omega
      generalize hX : t1 - a = x1 at *
      generalize hY : t2 - b' = y1 at *
      have hA : A.length < (A ++ (s1, x1) :: B).length := by simp
      have hA2 : A2.length < (A2 ++ (s2, y1) :: B2).length := by simp
      have e1 : 0 + ((A.length : Nat) : Int).toNat * 2 + 1 = A.length * 2 + 1 := by omega
      have e2 : 0 + ((A2.length : Nat) : Int).toNat * 2 + 1 = A2.length * 2 + 1 := by omega
      have f1 : (gsC (A ++ (s1, x1) :: B))[0 + ((A.length : Nat) : Int).toNat * 2 + 1]? = some (.int .i64 (x1 : Nat)) := by rw [e1]; exact (gsC_get get_mid).2
      have f2 : (gsC (A2 ++ (s2, y1) :: B2))[0 + ((A2.length : Nat) : Int).toNat * 2 + 1]? = some (.int .i64 (y1 : Nat)) := by rw [e2]; exact (gsC_get get_mid).2
      have q1 : ((x1 : Int) - 1) / (a : Nat) = (((x1 - 1) / a : Nat) : Int) := by rw [show (x1 : Int) - 1 = ((x1 - 1 : Nat) : Int) by omega]; exact (Int.natCast_ediv ..).symm
      have q2 : ((y1 : Int) - 1) / (b' : Nat) = (((y1 - 1) / b' : Nat) : Int) := by rw [show (y1 : Int) - 1 = ((y1 - 1 : Nat) : Int) by omega]; exact (Int.natCast_ediv ..).symm
      have hkk : (if ((y1 : Int) - 1) / (b' : Nat) < ((x1 : Int) - 1) / (a : Nat) then ((y1 : Int) - 1) / (b' : Nat) else ((x1 : Int) - 1) / (a : Nat)) = (k : Nat) := by
        rw [q1, q2, hk]
        generalize (x1 - 1) / a = u1
        generalize (y1 - 1) / b' = u2
        split <;> omega
      have m1 : (k : Int) * (a : Int) = ((k * a : Nat) : Int) := (Int.natCast_mul ..).symm
      have m2 : (k : Int) * (b' : Int) = ((k * b' : Nat) : Int) := (Int.natCast_mul ..).symm
      have m3 : (k : Int) * ((sum : Int) - (m0 : Int)) = ((k * u.length : Nat) : Int) := by rw [show (sum : Int) - (m0 : Int) = (u.length : Int) by omega]; exact (Int.natCast_mul ..).symm
      have b1 : 0 ≤ (k : Int) * (a : Int) ∧ (k : Int) * (a : Int) ≤ x1 := by rw [m1]; omega
      have b2 : 0 ≤ (k : Int) * (b' : Int) ∧ (k : Int) * (b' : Int) ≤ y1 := by rw [m2]; omega
      have b3 : 0 ≤ (k : Int) * ((sum : Int) - (m0 : Int)) ∧ (k : Int) * ((sum : Int) - (m0 : Int)) ≤ 1152921504606846976 := by rw [m3]; omega
      have st1 : setMany (gsC (A ++ (s1, x1) :: B)) (0 + ((A.length : Nat) : Int).toNat * 2 + 1) (cellsL (.int .i64 ((x1 : Int) - (k : Int) * (a : Int)))) = gsC (A ++ (s1, x1 - k * a) :: B) := by
        rw [e1, show (x1 : Int) - (k : Int) * (a : Int) = ((x1 - k * a : Nat) : Int) by rw [m1]; omega]
        have := gsC_set (gs := A ++ (s1, x1) :: B) get_mid (x1 - k * a)
        simp only [setMany, cellsL]
        rw [this, set_mid]
      have st2 : setMany (gsC (A2 ++ (s2, y1) :: B2)) (0 + ((A2.length : Nat) : Int).toNat * 2 + 1) (cellsL (.int .i64 ((y1 : Int) - (k : Int) * (b' : Int)))) = gsC (A2 ++ (s2, y1 - k * b') :: B2) := by
        rw [e2, show (y1 : Int) - (k : Int) * (b' : Int) = ((y1 - k * b' : Nat) : Int) by rw [m2]; omega]
        have := gsC_set (gs := A2 ++ (s2, y1) :: B2) get_mid (y1 - k * b')
        simp only [setMany, cellsL]
        rw [this, set_mid]
      refine l_say (p := sl p3 c3 138 2 (A ++ (s1, x1) :: B).length (gsC (A ++ (s1, x1) :: B))) (by ((repeat constructor); done)) (fun _ h => sl_form h (by omega)) ?_
      rintro ⟨g3, rfl⟩
      refine l_say (p := sl p4 c4 138 2 (A2 ++ (s2, y1) :: B2).length (gsC (A2 ++ (s2, y1) :: B2))) (by ((repeat constructor); done)) (fun _ h => sl_form h (by omega)) ?_
      rintro ⟨g4, rfl⟩
      skip
      refine lY (yM rfl) rfl ?_
      refine lY (y_extract rfl rfl) rfl ?_
      refine lY (y_extract rfl rfl) rfl ?_
      refine lY (y_extract rfl rfl) rfl ?_
      refine lY (yA rfl) rfl ?_
      refine lY (yA rfl) rfl ?_
      refine lY (yA rfl) rfl ?_
      refine l_nil (aT (w_seq (w_seq (wR ?_))))
      refine lY (yM rfl) rfl ?_
      refine lY (y_not rfl) rfl ?_
      refine l_nil (aT ?_)
      refine w_cond_f rfl ?_
      refine w_skip (aT (w_seq (w_draws (by kernel_rfl) ?_)))
      refine lY (yF rfl (hE.t rfl) rfl) rfl ?_
      apply lY
      · (first | (apply y_load rfl (hE.t rfl) rfl; (repeat (first | rfl | assumption | constructor)); done) | exact y_load_old rfl (hE.t rfl) rfl (by assumption) | (apply y_load_ro rfl (hE.t rfl) rfl; (focus ((repeat constructor); done)); (focus assumption)) | (apply y_load_q rfl (hE.t rfl) rfl (by assumption); (focus ((repeat constructor); done)); (first | ((focus exact f0); (focus omega)) | ((focus exact f1); (focus omega)) | ((focus assumption); (focus omega)))))
      · rfl
      refine lY (yM rfl) rfl ?_
      refine lY (y_indexAddr rfl rfl (hE.t rfl) (by omega) (by omega)) rfl ?_
      refine lY (yF rfl (hE.t rfl) rfl) rfl ?_
      apply lY
      · (first | (apply y_load rfl (hE.t rfl) rfl; (repeat (first | rfl | assumption | constructor)); done) | exact y_load_old rfl (hE.t rfl) rfl (by assumption) | (apply y_load_ro rfl (hE.t rfl) rfl; (focus ((repeat constructor); done)); (focus assumption)) | (apply y_load_q rfl (hE.t rfl) rfl (by assumption); (focus ((repeat constructor); done)); (first | ((focus exact f0); (focus omega)) | ((focus exact f1); (focus omega)) | ((focus assumption); (focus omega)))))
      · rfl
      refine lY (y_sub rfl rfl (by omega) (by omega)) rfl ?_
      refine lY (yM rfl) rfl ?_
      refine lY (y_quo rfl rfl (by omega) (by omega) (by omega)) rfl ?_
      refine lY (yF rfl (hE.t rfl) rfl) rfl ?_
      apply lY
      · (first | (apply y_load rfl (hE.t rfl) rfl; (repeat (first | rfl | assumption | constructor)); done) | exact y_load_old rfl (hE.t rfl) rfl (by assumption) | (apply y_load_ro rfl (hE.t rfl) rfl; (focus ((repeat constructor); done)); (focus assumption)) | (apply y_load_q rfl (hE.t rfl) rfl (by assumption); (focus ((repeat constructor); done)); (first | ((focus exact f0); (focus omega)) | ((focus exact f1); (focus omega)) | ((focus assumption); (focus omega)))))
      · rfl
      refine lY (yM rfl) rfl ?_
      refine lY (y_indexAddr rfl rfl (hE.t rfl) (by omega) (by omega)) rfl ?_
      refine lY (yF rfl (hE.t rfl) rfl) rfl ?_
      apply lY
      · (first | (apply y_load rfl (hE.t rfl) rfl; (repeat (first | rfl | assumption | constructor)); done) | exact y_load_old rfl (hE.t rfl) rfl (by assumption) | (apply y_load_ro rfl (hE.t rfl) rfl; (focus ((repeat constructor); done)); (focus assumption)) | (apply y_load_q rfl (hE.t rfl) rfl (by assumption); (focus ((repeat constructor); done)); (first | ((focus exact f0); (focus omega)) | ((focus exact f1); (focus omega)) | ((focus assumption); (focus omega)))))
      · rfl
      refine lY (y_sub rfl rfl (by omega) (by omega)) rfl ?_
      refine lY (yM rfl) rfl ?_
      refine lY (y_quo rfl rfl (by omega) (by omega) (by omega)) rfl ?_
      refine lY (y_min rfl rfl) rfl ?_
      refine lY (yA rfl) rfl ?_
      refine l_nil (aT ?_)
      refine w_eq 14 (.int .i64 (k : Nat)) rfl (int_eq hkk) ?_
      refine w_seq (wR ?_)
      refine lY (yF rfl (hE.t rfl) rfl) rfl ?_
      apply lY
      · (first | (apply y_load rfl (hE.t rfl) rfl; (repeat (first | rfl | assumption | constructor)); done) | exact y_load_old rfl (hE.t rfl) rfl (by assumption) | (apply y_load_ro rfl (hE.t rfl) rfl; (focus ((repeat constructor); done)); (focus assumption)) | (apply y_load_q rfl (hE.t rfl) rfl (by assumption); (focus ((repeat constructor); done)); (first | ((focus exact f0); (focus omega)) | ((focus exact f1); (focus omega)) | ((focus assumption); (focus omega)))))
      · rfl
      refine lY (yM rfl) rfl ?_
      refine lY (y_indexAddr rfl rfl (hE.t rfl) (by omega) (by omega)) rfl ?_
      refine lY (yF rfl (hE.t rfl) rfl) rfl ?_
      apply lY
      · (first | (apply y_load rfl (hE.t rfl) rfl; (repeat (first | rfl | assumption | constructor)); done) | exact y_load_old rfl (hE.t rfl) rfl (by assumption) | (apply y_load_ro rfl (hE.t rfl) rfl; (focus ((repeat constructor); done)); (focus assumption)) | (apply y_load_q rfl (hE.t rfl) rfl (by assumption); (focus ((repeat constructor); done)); (first | ((focus exact f0); (focus omega)) | ((focus exact f1); (focus omega)) | ((focus assumption); (focus omega)))))
      · rfl
      refine lY (yM rfl) rfl ?_
      refine lY (yM rfl) rfl ?_
      refine lY (y_mul rfl rfl (by omega) (by omega)) rfl ?_
      refine lY (y_sub rfl rfl (by omega) (by omega)) rfl ?_
      refine lY (y_indexAddr rfl rfl (hE.t rfl) (by omega) (by omega)) rfl ?_
      refine lY (yF rfl (hE.t rfl) rfl) rfl ?_
      apply lL (by kernel_rfl) rfl
      (first | (apply ld_store rfl rfl (hE.t rfl) rfl; (focus ((repeat constructor); done)); (focus rfl); (focus (exact Nat.le_of_ble_eq_true rfl))) | (apply ld_store_sl rfl rfl (hE.t rfl) rfl; (focus ((repeat constructor); done)); (focus rfl); (focus (first | omega | (simp only [cellsL, length_setMany, List.length_cons, List.length_nil]; omega)))))
      refine l_nil (aT ?_)
      rw [st1]
      refine w_seq (wR ?_)
      refine lY (yF rfl (hE.t rfl) rfl) rfl ?_
      apply lY
      · (first | (apply y_load rfl (hE.t rfl) rfl; (repeat (first | rfl | assumption | constructor)); done) | exact y_load_old rfl (hE.t rfl) rfl (by assumption) | (apply y_load_ro rfl (hE.t rfl) rfl; (focus ((repeat constructor); done)); (focus assumption)) | (apply y_load_q rfl (hE.t rfl) rfl (by assumption); (focus ((repeat constructor); done)); (first | ((focus exact f0); (focus omega)) | ((focus exact f1); (focus omega)) | ((focus assumption); (focus omega)))))
      · rfl
      refine lY (yM rfl) rfl ?_
      refine lY (y_indexAddr rfl rfl (hE.t rfl) (by omega) (by omega)) rfl ?_
      refine lY (yF rfl (hE.t rfl) rfl) rfl ?_
      apply lY
      · (first | (apply y_load rfl (hE.t rfl) rfl; (repeat (first | rfl | assumption | constructor)); done) | exact y_load_old rfl (hE.t rfl) rfl (by assumption) | (apply y_load_ro rfl (hE.t rfl) rfl; (focus ((repeat constructor); done)); (focus assumption)) | (apply y_load_q rfl (hE.t rfl) rfl (by assumption); (focus ((repeat constructor); done)); (first | ((focus exact f0); (focus omega)) | ((focus exact f1); (focus omega)) | ((focus assumption); (focus omega)))))
      · rfl
      refine lY (yM rfl) rfl ?_
      refine lY (yM rfl) rfl ?_
      refine lY (y_mul rfl rfl (by omega) (by omega)) rfl ?_
      refine lY (y_sub rfl rfl (by omega) (by omega)) rfl ?_
      refine lY (y_indexAddr rfl rfl (hE.t rfl) (by omega) (by omega)) rfl ?_
      refine lY (yF rfl (hE.t rfl) rfl) rfl ?_
      apply lL (by kernel_rfl) rfl
      (first | (apply ld_store rfl rfl (hE.t rfl) rfl; (focus ((repeat constructor); done)); (focus rfl); (focus (exact Nat.le_of_ble_eq_true rfl))) | (apply ld_store_sl rfl rfl (hE.t rfl) rfl; (focus ((repeat constructor); done)); (focus rfl); (focus (first | omega | (simp only [cellsL, length_setMany, List.length_cons, List.length_nil]; omega)))))
      refine l_nil (aT ?_)
      rw [st2]
      refine w_seq (wR ?_)
      refine lY (yM rfl) rfl ?_
      refine lY (yM rfl) rfl ?_
      refine lY (yF rfl (hE.t rfl) rfl) rfl ?_
      apply lY
      · (first | (apply y_load rfl (hE.t rfl) rfl; (repeat (first | rfl | assumption | constructor)); done) | exact y_load_old rfl (hE.t rfl) rfl (by assumption) | (apply y_load_ro rfl (hE.t rfl) rfl; (focus ((repeat constructor); done)); (focus assumption)) | (apply y_load_q rfl (hE.t rfl) rfl (by assumption); (focus ((repeat constructor); done)); (first | ((focus exact f0); (focus omega)) | ((focus exact f1); (focus omega)) | ((focus assumption); (focus omega)))))
      · rfl
      refine lY (y_sub rfl rfl (by omega) (by omega)) rfl ?_
      refine lY (y_mul rfl rfl (by omega) (by omega)) rfl ?_
      refine lY (yA rfl) rfl ?_
      refine l_nil (aT (w_ret ?_))
      apply a_ret
      · rfl
      · (apply Rs.tmp rfl; exact Rs.nil)
      · refine ⟨A ++ (s1, x1 - k * a) :: B, A2 ++ (s2, y1 - k * b') :: B2, rep k u, ?_, hx, hy, gok_mid hgx (by omega) (by omega), gok_mid hgy (by omega) (by omega), by simp, by simp, cost_mid (by omega), cost_mid (by omega), rfl⟩
        rw [rep_length]
        exact int_eq m3
      · rw [show (A ++ (s1, x1 - k * a) :: B).length = (A ++ (s1, x1) :: B).length by simp, show (A2 ++ (s2, y1 - k * b') :: B2).length = (A2 ++ (s2, y1) :: B2).length by simp]
        (apply ent; (repeat constructor); done)
end Go.Proofs.YtekhbjlplfbdkaaDoor
namespace Sl
open Go Go.RowKit
variable {E : Env} {n : Nat} {L : Fr} {S H H' : List HP} {ty : TypeId} {pos : String} {af : Array Edge} {d : Option Nat} {gd : Option (Nat × Bool)} {K : Value → List HP → Prop} {Q : Exit → Act → World → Prop}
theorem equal_sl {P : Program} {t e : TypeId} (hu : P.underlying t = some (.slice e)) (p : Option Addr) (a b c d : Nat) (w : World) : (Op.equal t (.slice p a b) (.slice none c d)).run P w = .ok p.isNone w := by
  unfold Op.equal
  rw [show Op.maxDepth = 9999 + 1 from rfl, Op.equalIn]
  cases p <;> simp [underlying, program, Sem.run, hu]
theorem eqGuard_sl (op : BinOp) (t : TypeId) (x y : Operand) (p q : Option Addr) (a b c d : Nat) (P : Program) (w : World) : (eqGuard op t x y (.slice p a b) (.slice q c d)).run P w = .ok () w := by
  unfold eqGuard; split <;> simp
theorem y_eq_sl {x : Operand} {t yt e : TypeId} {p : Option Addr} {a b s by_ sz : Nat} {zs : List Value} (hx : ev L x = some (.slice p a b)) (ht : E.tab t = some ⟨.slice e s by_, sz, zs⟩) :
    Yl E n L S ⟨d, .binOp .eql t x (.const (.slice none 0 0)) yt, ty, pos, af, gd⟩ (.bool p.isNone) := fun ac w g _ => by
  have hy : ac.eval (.const (.slice none 0 0)) = .slice none 0 0 := rfl
  simp [execOp, eqGuard_sl, binOp, equal_sl (tab_slice ht).1, g.ev hx, hy]
theorem ld_buildSlice0 {t e : TypeId} {es by_ sz : Nat} {zs : List Value} (ht : E.tab t = some ⟨.slice e es by_, sz, zs⟩) (hk : ∀ b, K (.slice (some ⟨b, 0, none⟩) 0 0) (sl (some ⟨b, 0, none⟩) 0 e es 0 [] :: H)) :
    Ld E n L H ⟨d, .buildSlice t 0 #[], ty, pos, af, gd⟩ K := fun Q next a w g hn => by
  obtain ⟨hu, j, hj, hs, _⟩ := tab_slice ht
  have hrun : (execOp a.eval ⟨d, .buildSlice t 0 #[], ty, pos, af, gd⟩).run E.P w = .ok (.value (.slice (some ⟨w.heap.size, 0, none⟩) 0 0)) (w.alloc (.cells #[] e)) := by
    simp [execOp, Instr.buildSlice, underlying, program, Sem.run, hu, Go.sizeOf, typeInfo, hj, Instr.fill, newRow, newObj]
    congr 2
    exact Array.toList_inj.1 (by simp)
  unfold Oper.wp
  rw [hrun, Oper.upon_value]
  refine hn _ _ _ (hk _) ((g.hp.new _).imp fun k h => stars_head (fun k' h' => ?_) h)
  exact ⟨by simp, .inr ⟨_, #[], rfl, h', Nat.le_refl _, Nat.zero_le _, by simp, by simp⟩⟩
theorem ld_append_sl {x y : Operand} {t e : TypeId} {p : Option Addr} {c m k cc g es by_ sz sz' : Nat} {xs us zs zs' : List Value} {kk : TK} {H'' : List HP} (ht : E.tab t = some ⟨.slice e es by_, sz, zs⟩) (he : E.tab e = some ⟨kk, sz', zs'⟩) (hz : (Nat.beq zs'.length es && Nat.blt 0 es) = true)
    (hx : ev L x = some (.slice p m c)) (hy : ev L y = some (.slice (some ⟨g, 0, none⟩) k cc)) (hm : Take (sl (some ⟨g, 0, none⟩) cc e es k us) H H') (hm2 : Take (sl p c e es m xs) H' H'') (hp : ∀ u ∈ us, u.oneCell' = true) (h0 : 0 < k) (hb : (m + k) * by_ ≤ 140737488355328) (hb2 : m + k ≤ maxLen)
    (hk : ∀ g' c' m' xs', m' = m + k → xs' = xs ++ us → K (.slice (some ⟨g', 0, none⟩) m' c') (sl (some ⟨g', 0, none⟩) c' e es m' xs' :: sl (some ⟨g, 0, none⟩) cc e es k us :: H'')) : Ld E n L H ⟨d, .call { callee := .builtin .append, args := #[x, y], argTypes := #[t, t] }, ty, pos, af, gd⟩ K := fun Q next a w G hn => by
  obtain ⟨hu, j, hj, hs, hby⟩ := tab_slice ht
  obtain ⟨i, z, hi, hi2, hiz, hzc, _⟩ := tab_info he
  obtain rfl : i = j := by rw [hi] at hj; simpa using hj
  simp only [Bool.and_eq_true] at hz
  have z1 := Nat.eq_of_beq_eq_true hz.1
  have z2 : 0 < es := by simpa [Nat.blt_eq] using hz.2
  have s1 := G.hp.take hm
  have hl : us.length = k * es := by obtain ⟨h1, h2, _, _, hh, _⟩ := s1.hp; exact hh.1
  have s2 : Sat E.w0 w (sl p c e es m xs :: sl (some ⟨g, 0, none⟩) cc e es k us :: H'') := (s1.imp fun _ h => stars_swap (stars_cons (fun _ => hm2.out) h))
  have hnews : ∀ j u, us[j]? = some u → w.cell? ((⟨g, 0, none⟩ : Addr).add j) = some u := fun j u hu => by rw [addr_add, Nat.zero_add]; exact (HasC.slice hu).cell s1
  obtain ⟨g', c', w', hr, ho, hgr, hat, _⟩ := run_append_lies (P := E.P) w t ty E.w0.heap.size e i z es by_ hu hi hiz hs hby (by rw [← Array.length_toList, hzc]; exact z1) z2 (.slice p m c) m xs s2.owns ⟨g, 0, none⟩ k cc us hl hnews hp h0 hb2 hb s2.size _ rfl
  have hrun : (execOp a.eval ⟨d, .call { callee := .builtin .append, args := #[x, y], argTypes := #[t, t] }, ty, pos, af, gd⟩).run E.P w = .ok (.value (.slice (some ⟨g', 0, none⟩) (m + k) c')) w' := by
    simp [execOp, resolve, invoke, builtin, G.f.ev hx, G.f.ev hy, hr]
  unfold Oper.wp
  rw [hrun, Oper.upon_value]
  exact hn _ _ _ (hk g' c' _ _ rfl rfl) (s2.resl ho hgr hat)
theorem m_two {ops : List Oper} {m : Nat} {S : List HP} {fuel : Nat} {listed : Array Bool} (i j : Nat) {d d' : Option Nat} {op op' : Op} {ty ty' : TypeId} {pos pos' : String} {af af' : Array Edge} (hi : ops[i]? = some ⟨d, op, ty, pos, af, none⟩) (hj : ops[j]? = some ⟨d', op', ty', pos', af', none⟩) (hr : Region.ready .any ops.toArray listed = [i, j]) (hd : inB n d = true) (hd' : inB n d' = true)
    (h : Ld E n L H ⟨d, op, ty, pos, af, none⟩ (fun v H' => (∀ k, stars H' k → stars S k) ∧ WPM E ops m S Q fuel (listed.setIfInBounds i true) n (putL d v L) H')) (h' : Ld E n L H ⟨d', op', ty', pos', af', none⟩ (fun v H' => (∀ k, stars H' k → stars S k) ∧ WPM E ops m S Q fuel (listed.setIfInBounds j true) n (putL d' v L) H')) : WPM E ops m S Q (fuel + 1) listed n L H := fun _ a w g =>
  ⟨fun h0 => (by rw [hr] at h0; cases h0), fun x hx => by
    have hx' : x = i ∨ x = j := by rw [hr] at hx; simpa using hx
    rcases hx' with rfl | rfl
    · unfold wpOp
      simp only [get_toArray hi, Region.wanted, if_true]
      exact .inl (h _ _ a w g (fun v H' w' hk hs => ⟨fun _ => hs.imp hk.1, hk.2 hk.1 _ _ ⟨g.f.put d v hd, hs⟩⟩))
    · unfold wpOp
      simp only [get_toArray hj, Region.wanted, if_true]
      exact .inl (h' _ _ a w g (fun v H' w' hk hs => ⟨fun _ => hs.imp hk.1, hk.2 hk.1 _ _ ⟨g.f.put d' v hd', hs⟩⟩))⟩
theorem y_and {x y : Operand} {xt yt : TypeId} {i j : Int} {kd : IntKind} (hx : ev L x = some (.int kd i)) (hy : ev L y = some (.int kd j)) :
    Yl E n L S ⟨d, .binOp .and xt x y yt, ty, pos, af, gd⟩ (.int kd (kd.wrap (BitVec.ofInt kd.bits i &&& BitVec.ofInt kd.bits j).toNat)) := fun a w g _ => by
  simp [execOp, eqGuard, binOp, Op.intBits, g.ev hx, g.ev hy]
def WRd (E : Env) (c : Code) (Q : Exit → Act → World → Prop) (m : Nat) (n : Nat) (L : Fr) (H : List HP) : Prop := ∀ a w, Good E n L H a w → Code.rounds E.P c Q m a w
theorem w_rounds (m : Nat) {c : Code} (h : WRd E c Q m n L H) : WP E (.loop c) Q n L H := fun a w g => wp_loop_rounds m (h a w g)
theorem r_succ {m : Nat} {c : Code} (h : WP E c (Exit.then (Code.rounds E.P c Q m) Q) n L H) : WRd E c Q (m + 1) n L H := fun a w g => h a w g
theorem a_rd {m : Nat} {c : Code} (h : WRd E c Q m n L H) : AT E (Exit.then (Code.rounds E.P c Q m) Q) .normal n L H := h
theorem y_idx {x y : Operand} {t e : TypeId} {len sz sz' : Nat} {k : IntKind} {i : Int} {kk : TK} {zs zs' cs : List Value} {v : Value} (h : ev L x = some (.agg ⟨cs⟩)) (hy : ev L y = some (.int k i)) (ht : E.tab t = some ⟨.array len e 1, sz, zs⟩) (he : E.tab e = some ⟨kk, sz', zs'⟩) (hk : kk.agg = false)
    (h0 : 0 ≤ i) (h1 : i < len) (hv : cs[i.toNat]? = some v) : Yl E n L S ⟨d, .index t x y, ty, pos, af, gd⟩ v := fun a w g _ => by
  obtain ⟨hu, j, hj, hs⟩ := tab_array ht
  simp [execOp, Instr.index, asIntOf, underlying, program, Sem.run, hu, g.ev h, g.ev hy, h0, h1, Go.sizeOf, typeInfo, hj, hs, part, tab_isAgg he, hk, hv]
theorem y_buildA {t e : TypeId} {len s : Nat} {ps : List (Nat × Operand)} {vs : List (Nat × Value)} {sz : Nat} {zs cs : List Value} (ht : E.tab t = some ⟨.array len e s, sz, zs⟩) (hp : evP L ps = some vs) (hf : fillL (fun i => some (i * s, s)) zs vs = some cs) :
    Yl E n L S ⟨d, .build t ps.toArray, ty, pos, af, gd⟩ (.agg ⟨cs⟩) := fun a w g _ => by
  obtain ⟨z, hz, hc⟩ := tab_zero ht w
  obtain ⟨hu, j, hj, hs⟩ := tab_array ht
  have hps := g.evP hp
  have hfill := fill_eq (fun i => some (i * s, s)) vs zs cs hf
  have e' : z.cells = ⟨zs⟩ := by rw [← hc]
  have hpl : (ps.toArray.map fun x => match x with | (i, x) => (i, a.eval x)).toList = vs := by simpa using hps
  simp only [execOp, Instr.build, Sem.run_bind, hz, Result.andThen_ok, underlying, program, Sem.run, hu, Go.sizeOf, typeInfo, hj, hs, e', hpl, Sem.run_pure]
  rw [hfill]
  rfl
end Sl
namespace Go.Proofs.YtekhbjlplfbdkaaDoor
open Go Go.RowKit Sl Eg
set_option maxRecDepth 10000
variable {E : Env}
theorem gsC_one : ∀ (gs : List (Nat × Nat)), ∀ u ∈ gsC gs, u.oneCell' = true
  | [], _, h => by simp [gsC] at h
  | g :: r, u, h => by
    simp [gsC] at h
    rcases h with rfl | rfl | h
    · rfl
    · rfl
    · exact gsC_one r u h
theorem ct_clone (hE : Seat E) {g c : Nat} {gs : List (Nat × Nat)} (h0 : 0 < gs.length) (hl : gs.length < 1099511627776) :
    Ct E 68 [.slice (some ⟨g, 0, none⟩) gs.length c] [sl (some ⟨g, 0, none⟩) c 138 2 gs.length (gsC gs)]
      (fun v Q => ∃ g' c', v = .slice (some ⟨g', 0, none⟩) gs.length c' ∧ Q = [sl (some ⟨g', 0, none⟩) c' 138 2 gs.length (gsC gs), sl (some ⟨g, 0, none⟩) c 138 2 gs.length (gsC gs)]) := by
  refine fn_enter (hE.fn Tryd.func68) rfl rfl rfl (fun R => ?_)
  simp only [argsL, List.cons_append, List.nil_append]
  refine w_seq (wR ?_)
  refine lY (yA rfl) rfl ?_
  refine l_nil (aT (w_seq (w_seq (wR ?_))))
  refine lY (yM rfl) rfl ?_
  refine lY (y_eq_sl rfl (hE.t rfl)) rfl ?_
  refine l_nil (aT ?_)
  refine w_cond_f rfl ?_
  refine w_skip (aT (w_seq (wR ?_)))
  apply lL (by kernel_rfl) rfl
  refine ld_buildSlice0 (hE.t rfl) (fun b5 => ?_)
  refine lY (yM rfl) rfl ?_
  apply lL (by kernel_rfl) rfl
  apply ld_append_sl (hE.t rfl) (hE.t rfl) rfl rfl rfl
  · ((repeat constructor); done)
  · ((repeat constructor); done)
  · exact gsC_one gs
  · exact h0
  · omega
  · unfold maxLen; omega
  intro g' c' m' xs' hm hx
  obtain rfl : m' = gs.length := by omega
  obtain rfl : xs' = gsC gs := by rw [hx]; rfl
  refine lY (yA rfl) rfl ?_
  refine l_nil (aT (w_ret ?_))
  apply a_ret
  · rfl
  · (apply Rs.tmp rfl; exact Rs.nil)
  · exact ⟨g', c', rfl, rfl⟩
  · (apply ent; (repeat constructor); done)
end Go.Proofs.YtekhbjlplfbdkaaDoor
