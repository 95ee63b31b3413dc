/- Package prefix: common. -/
import Derived.Test.YtekhbjlplfbdkaaDoorQ08
set_option linter.unusedVariables false
set_option linter.unusedSimpArgs false
namespace Go.Proofs.YtekhbjlplfbdkaaDoor
open Go Go.RowKit Sl Eg
set_option maxRecDepth 10000
variable {E : Env} {Es : List Ent} {pp tb s most : Nat}
structure CmG where
  st : Nat
  sum : Nat
  gx : List (Nat × Nat)
  gy : List (Nat × Nat)
  mx : List (Nat × Nat)
  my : List (Nat × Nat)
  q1 : Option Addr
  q2 : Option Addr
  d1 : Nat
  d2 : Nat
  m0 : Nat
structure CmOk (L : List Rl) (bk : Bool) (X Y : List UInt8) (C0 from_ : Nat) (x : CmG) : Prop where
  st : x.st ≤ 16777216
  w : ∃ w, X = w ++ strm L bk x.gx ∧ Y = w ++ strm L bk x.gy ∧ w.length = x.sum
  okx : gok L x.gx
  oky : gok L x.gy
  cost : x.st + (cost L x.gx + cost L x.gy) ≤ C0
  lx : x.gx.length ≤ 4194304 + 2 * x.st
  ly : x.gy.length ≤ 4194304 + 2 * x.st
  mark : from_ ≤ x.st → ∃ u, strm L bk x.mx = u ++ strm L bk x.gx ∧ strm L bk x.my = u ++ strm L bk x.gy ∧ u.length + x.m0 = x.sum ∧ gok L x.mx ∧ gok L x.my ∧ x.mx.length ≤ 4194304 + 2 * x.st ∧ x.my.length ≤ 4194304 + 2 * x.st
def CmPost (X Y : List UInt8) (C0 : Nat) (pp s tb most : Nat) (Es : List Ent) (v : Value) (Q : List HP) : Prop :=
  ∃ n, v = .int .i64 (n : Nat) ∧ n ≤ lcp X Y ∧ (C0 < 16777216 → n = lcp X Y) ∧ Q = [cells pp [.pointer (some ⟨s, 0, none⟩), .pointer (some ⟨tb, 0, none⟩)] 78, tabP tb s (rls Es), storeP s most Es]
theorem cost_drop {L : List Rl} {a : List (Nat × Nat)} {sy k m : Nat} (hm : m ≤ k) : cost L (dropG a sy k m) + m * (2 * len L sy - 1) = cost L (a ++ [(sy, k)]) := by
  unfold dropG
  rw [cost_append, cost_one]
  split
  · rename_i h; rw [h]
  · rw [cost_append, cost_one, Nat.add_assoc, ← Nat.add_mul, Nat.sub_add_cancel hm]
theorem cost_refs {L : List Rl} (hwf : Wf L) {bk : Bool} {i : Nat} {r : Rl} (h : L[i]? = some r) (hn : ∀ b, r ≠ .letter b) : cost L (refsG bk r) + 1 ≤ 2 * len L (i + 1) - 1 := by
  have hk := hwf.ok i r h
  have hlt := (List.getElem?_eq_some_iff.1 h).1
  cases r with
  | letter b => exact absurd rfl (hn b)
  | pair l r =>
    rw [len_pair h hk]
    obtain ⟨k1, k2, k3, k4⟩ := hk
    have h1 := len_pos hwf l k1 (by omega)
    have h2 := len_pos hwf r k3 (by omega)
    cases bk <;> simp [refsG, cost] <;> omega
  | power x k =>
    rw [len_power h hk]
    obtain ⟨k1, k2, k3⟩ := hk
    have h1 := len_pos hwf x k1 (by omega)
    simp only [refsG, cost, Nat.add_zero]
    have e : k * (2 * len L x - 1) + k = 2 * (k * len L x) := by
      rw [← Nat.mul_succ, show (2 * len L x - 1).succ = 2 * len L x by omega, Nat.mul_left_comm]
    omega
theorem open_facts {L : List Rl} (hwf : Wf L) {bk : Bool} {a : List (Nat × Nat)} {i k : Nat} {r : Rl} (h : L[i]? = some r) (hg : gok L (a ++ [(i + 1, k)])) (hl : lvl L (i + 1) ≠ 0) :
    strm L bk (dropG a (i + 1) k 1 ++ refsG bk r) = strm L bk (a ++ [(i + 1, k)]) ∧ gok L (dropG a (i + 1) k 1 ++ refsG bk r) ∧ cost L (dropG a (i + 1) k 1 ++ refsG bk r) + 1 ≤ cost L (a ++ [(i + 1, k)]) ∧ (dropG a (i + 1) k 1 ++ refsG bk r).length ≤ a.length + 3 := by
  have hn : ∀ b, r ≠ .letter b := by
    rintro b rfl
    exact hl (key_letter h).2
  have ho := gok_one.1 (gok_append.1 hg).2
  refine ⟨?_, gok_append.2 ⟨gok_drop hg ho.2.2.2.1, gok_refs hwf h ho.2.2.1⟩, ?_, ?_⟩
  · rw [strm_append, strm_refs h (hwf.ok i r h) hn, strm_drop ho.2.2.2.1, rep_one]
  · have h1 := cost_drop (L := L) (a := a) (sy := i + 1) ho.2.2.2.1
    have h2 := cost_refs hwf (bk := bk) h hn
    rw [cost_append]
    omega
  · rw [List.length_append]
    have h1 : (dropG a (i + 1) k 1).length ≤ a.length + 1 := by unfold dropG; split <;> simp
    have h2 : (refsG bk r).length ≤ 2 := by cases r <;> cases bk <;> simp [refsG]
    omega
theorem ct_common (hE : Seat E) (hB : Base E.w0) {bk : Bool} {p3 p4 : Option Addr} {c3 c4 : Nat} {gx0 gy0 : List (Nat × Nat)} (hgx : gok (rls Es) gx0) (hgy : gok (rls Es) gy0) (hl3 : gx0.length ≤ 4194304) (hl4 : gy0.length ≤ 4194304)
    (hX : (strm (rls Es) bk gx0).length ≤ 1152921504606846976) (hY : (strm (rls Es) bk gy0).length ≤ 1152921504606846976) :
    Ct E 37 [.agg #[.pointer (some ⟨pp, 0, none⟩), .bool bk, .slice p3 gx0.length c3], .agg #[.pointer (some ⟨pp, 0, none⟩), .bool bk, .slice p4 gy0.length c4]]
      [sl p3 c3 138 2 gx0.length (gsC gx0), sl p4 c4 138 2 gy0.length (gsC gy0), cells pp [.pointer (some ⟨s, 0, none⟩), .pointer (some ⟨tb, 0, none⟩)] 78, tabP tb s (rls Es), storeP s most Es] (CmPost (strm (rls Es) bk gx0) (strm (rls Es) bk gy0) (cost (rls Es) gx0 + cost (rls Es) gy0) pp s tb most Es) := by
  refine ct_fact (p := storeP s most Es) (by ((repeat constructor); done)) (fun _ h => storeP_says h) (fun hsay => ?_)
  obtain ⟨hwf, htx, hmost, hfit⟩ := hsay
  generalize hXX : strm (rls Es) bk gx0 = X at *
  generalize hYY : strm (rls Es) bk gy0 = Y at *
  generalize hCC : cost (rls Es) gx0 + cost (rls Es) gy0 = C0 at *
  refine fn_enter (hE.fn Tryd.func37) rfl rfl rfl (fun R => ?_)
  simp only [argsL, List.cons_append, List.nil_append]
  refine w_seq (wR ?_)
  apply lL (by kernel_rfl) rfl
  refine ld_box rfl (fun b2 => ?_)
  apply lL (by kernel_rfl) rfl
  refine ld_box rfl (fun b3 => ?_)
  refine lY (yA rfl) rfl ?_
  refine l_nil (aT (w_seq (wR ?_)))
  refine lY (yF rfl (hE.t rfl) rfl) rfl ?_
  apply lY
  · (apply y_load rfl (hE.t rfl) rfl; (repeat (first | rfl | assumption | constructor)); done)
  · rfl
  refine lY (yA rfl) rfl ?_
  refine lY (yA rfl) rfl ?_
  refine l_nil (aT (w_seq (wR ?_)))
  apply lL (by kernel_rfl) rfl
  refine ld_alloc (hE.t rfl) (fun b7 => ?_)
  refine l_nil (aT (w_seq (w_seq (wR ?_))))
  refine lY (yM rfl) rfl ?_
  refine l_nil (aT (w_block ?_))
  skip
  refine w_loop (fun x : CmG => [(2, .pointer (some ⟨b2, 0, none⟩)), (3, .pointer (some ⟨b3, 0, none⟩)), (5, .pointer (some ⟨pp, 0, none⟩)), (6, .int .i64 (x.sum : Nat)), (7, .pointer (some ⟨b7, 0, none⟩)), (18, .int .i64 (x.st : Nat))])
    (fun x => [rdP b2 (.pointer (some ⟨pp, 0, none⟩)) bk x.gx, rdP b3 (.pointer (some ⟨pp, 0, none⟩)) bk x.gy, cells b7 [.slice x.q1 x.mx.length x.d1, .slice x.q2 x.my.length x.d2, .int .i64 (x.m0 : Nat)] 135, sl x.q1 x.d1 138 2 x.mx.length (gsC x.mx), sl x.q2 x.d2 138 2 x.my.length (gsC x.my), cells pp [.pointer (some ⟨s, 0, none⟩), .pointer (some ⟨tb, 0, none⟩)] 78, tabP tb s (rls Es), storeP s most Es, R])
    (fun x => 16777216 - x.st) (CmOk (rls Es) bk X Y C0 1025) ⟨0, 0, gx0, gy0, [], [], none, none, 0, 0, 0⟩ ?_ ?_ ?_ ?_
  · exact ⟨by simp, ⟨[], by simp [hXX], by simp [hYY], rfl⟩, hgx, hgy, by simp [hCC], by simpa using hl3, by simpa using hl4, fun h => absurd h (by simp)⟩
  · exact ⟨rfl, rfl, rfl, rfl, rfl, rfl, trivial⟩
  · apply ent_trans (ent_nil (t := 138) (sz := 2))
    apply ent_trans (ent_nil (t := 138) (sz := 2))
    apply ent_trans
    · apply rdP_close (gs := gx0) (x := b2) (p := p3) (c := c3) (pv := .pointer (some ⟨pp, 0, none⟩)) (bk := bk)
      · ((repeat constructor); done)
      · rfl
      · rfl
    · apply ent_trans
      · apply rdP_close (gs := gy0) (x := b3) (p := p4) (c := c4) (pv := .pointer (some ⟨pp, 0, none⟩)) (bk := bk)
        · ((repeat constructor); done)
        · rfl
        · rfl
      · (apply ent; (repeat constructor); done)
  rintro ⟨st, sum, gx, gy, mx, my, q1, q2, d1, d2, m0⟩ hok
  have hst := hok.st
  obtain ⟨w, hw1, hw2, hw3⟩ := hok.w
  have okx := hok.okx
  have oky := hok.oky
  have hcost := hok.cost
  have lx := hok.lx
  have ly := hok.ly
  have hmk := hok.mark
  simp only at hst hw1 hw2 hw3 okx oky hcost lx ly hmk ⊢
  have hsum : sum + (strm (rls Es) bk gx).length ≤ 1152921504606846976 := by rw [hw1, List.length_append, hw3] at hX; exact hX
  have hsumy : sum + (strm (rls Es) bk gy).length ≤ 1152921504606846976 := by rw [hw2, List.length_append, hw3] at hY; exact hY
  have hlcp : lcp X Y = sum + lcp (strm (rls Es) bk gx) (strm (rls Es) bk gy) := by rw [hw1, hw2, lcp_append, hw3]
  skip
  refine w_seq (wR ?_)
  refine lY (y_lt rfl rfl) rfl ?_
  refine l_nil (aT (w_seq ?_))
  refine w_cond_d rfl (fun hlt => ?_) (fun hlt => ?_)
  · skip
    refine w_skip (aT (w_seq (w_block (w_seq (wR ?_)))))
    refine lY (yM rfl) rfl ?_
    refine lY (yA rfl) rfl ?_
    refine l_nil (aT ?_)
    apply w_open (ps := fun i' : Option Addr × Nat => [cells b2 [.pointer (some ⟨pp, 0, none⟩), .bool bk, .slice i'.1 gx.length i'.2] 93, sl i'.1 i'.2 138 2 gx.length (gsC gx)]) (p := rdP b2 (.pointer (some ⟨pp, 0, none⟩)) bk gx)
    · ((repeat constructor); done)
    · exact rdP_open
    rintro ⟨px, cx⟩
    simp only [List.cons_append, List.nil_append]
    apply w_open (ps := fun i' : Option Addr × Nat => [cells b3 [.pointer (some ⟨pp, 0, none⟩), .bool bk, .slice i'.1 gy.length i'.2] 93, sl i'.1 i'.2 138 2 gy.length (gsC gy)]) (p := rdP b3 (.pointer (some ⟨pp, 0, none⟩)) bk gy)
    · ((repeat constructor); done)
    · exact rdP_open
    rintro ⟨py, cy⟩
    simp only [List.cons_append, List.nil_append]
    refine w_seq (w_seq (wR ?_))
    refine lY (yF rfl (hE.t rfl) rfl) rfl ?_
    apply lY
    · (apply y_load rfl (hE.t rfl) rfl; (repeat (first | rfl | assumption | constructor)); done)
    · rfl
    refine lY (y_len_slice rfl (hE.t rfl)) rfl ?_
    refine lY (y_eq rfl rfl) rfl ?_
    refine lY (yM rfl) rfl ?_
    refine l_split 25 rfl (fun hx0 => ?_) (fun hx0 => ?_)
    · skip
      refine l_off rfl rfl rfl rfl (l_off rfl rfl rfl rfl (l_off rfl rfl rfl rfl (l_off rfl rfl rfl rfl ?_)))
      apply lY
      · (first | exact y_pick_t rfl rfl | exact y_pick_f rfl rfl)
      · rfl
      refine l_nil (aT ?_)
      refine w_cond_t rfl ?_
      refine w_exit (a_then_exit (a_block_far rfl (a_then_exit (a_then_exit (a_block_exit (aT (w_seq ?_)))))))
      refine wR ?_
      refine lY (yM rfl) rfl ?_
      refine lY (yA rfl) rfl ?_
      refine l_nil (aT (w_ret ?_))
      apply a_ret
      · rfl
      · (apply Rs.tmp rfl; exact Rs.nil)
      · have : gx = [] := List.eq_nil_of_length_eq_zero (by omega)
        subst this
        refine ⟨sum, rfl, ?_, fun _ => ?_, rfl⟩ <;> rw [hlcp, strm, lcp_nil_left] <;> omega
      · (apply ent; (repeat constructor); done)
    · skip
      refine l_on rfl rfl ?_
      refine lY (yF rfl (hE.t rfl) rfl) rfl ?_
      refine l_on rfl rfl ?_
      apply lY
      · (apply y_load rfl (hE.t rfl) rfl; (repeat (first | rfl | assumption | constructor)); done)
      · rfl
      refine l_on rfl rfl ?_
      refine lY (y_len_slice rfl (hE.t rfl)) rfl ?_
      refine l_on rfl rfl ?_
      refine lY (y_eq rfl rfl) rfl ?_
      apply lY
      · (first | exact y_pick_t rfl rfl | exact y_pick_f rfl rfl)
      · rfl
      refine l_nil (aT ?_)
      refine w_cond_d rfl (fun hy0 => ?_) (fun hy0 => ?_)
      · skip
        refine w_exit (a_then_exit (a_block_far rfl (a_then_exit (a_then_exit (a_block_exit (aT (w_seq ?_)))))))
        refine wR ?_
        refine lY (yM rfl) rfl ?_
        refine lY (yA rfl) rfl ?_
        refine l_nil (aT (w_ret ?_))
        apply a_ret
        · rfl
        · (apply Rs.tmp rfl; exact Rs.nil)
        · have : gy = [] := List.eq_nil_of_length_eq_zero (by omega)
          subst this
          refine ⟨sum, rfl, ?_, fun _ => ?_, rfl⟩ <;> rw [hlcp, strm, lcp_nil_right] <;> omega
        · (apply ent; (repeat constructor); done)
      · skip
        have px1 : 0 < gx.length := by omega
        have py1 : 0 < gy.length := by omega
        refine w_say (p := sl px cx 138 2 gx.length (gsC gx)) (by ((repeat constructor); done)) (fun _ h => sl_form h px1) ?_
        rintro ⟨g1, rfl⟩
        refine w_say (p := sl py cy 138 2 gy.length (gsC gy)) (by ((repeat constructor); done)) (fun _ h => sl_form h py1) ?_
        rintro ⟨g2, rfl⟩
        refine w_skip (aT ?_)
        refine w_cut (fun x : CmG => [(2, .pointer (some ⟨b2, 0, none⟩)), (3, .pointer (some ⟨b3, 0, none⟩)), (5, .pointer (some ⟨pp, 0, none⟩)), (6, .int .i64 (x.sum : Nat)), (7, .pointer (some ⟨b7, 0, none⟩)), (8, .int .i64 (st : Nat)), (18, .int .i64 (st : Nat))]) (fun x => [rdP b2 (.pointer (some ⟨pp, 0, none⟩)) bk x.gx, rdP b3 (.pointer (some ⟨pp, 0, none⟩)) bk x.gy, cells b7 [.slice x.q1 x.mx.length x.d1, .slice x.q2 x.my.length x.d2, .int .i64 (x.m0 : Nat)] 135, sl x.q1 x.d1 138 2 x.mx.length (gsC x.mx), sl x.q2 x.d2 138 2 x.my.length (gsC x.my), cells pp [.pointer (some ⟨s, 0, none⟩), .pointer (some ⟨tb, 0, none⟩)] 78, tabP tb s (rls Es), storeP s most Es, R]) (fun x => CmOk (rls Es) bk X Y C0 1024 x ∧ x.st = st ∧ x.gx.length = gx.length ∧ x.gy.length = gy.length) ?_ ?_
        · skip
          refine w_seq (wR ?_)
          refine lY (yM rfl) rfl ?_
          refine lY (y_ge rfl rfl) rfl ?_
          refine lY (yM rfl) rfl ?_
          refine l_split 33 rfl (fun he => ?_) (fun he => ?_)
          · skip
            refine l_on rfl rfl ?_
            refine lY (yM rfl) rfl ?_
            refine l_on rfl rfl ?_
            refine lY (yM rfl) rfl ?_
            refine l_on rfl rfl ?_
            refine lY (y_sub rfl rfl (by omega) (by omega)) rfl ?_
            refine l_on rfl rfl ?_
            apply lY
            · (first | exact y_and_i rfl rfl | exact y_and rfl rfl)
            · rfl
            refine l_on rfl rfl ?_
            refine lY (y_eq rfl rfl) rfl ?_
            apply lY
            · (first | exact y_pick_t rfl rfl | exact y_pick_f rfl rfl)
            · rfl
            refine l_nil (aT ?_)
            refine w_cond_d rfl (fun hz => ?_) (fun hz => ?_)
            · skip
              refine w_until 8 ([cells b2 [.pointer (some ⟨pp, 0, none⟩), .bool bk, .slice (some ⟨g1, 0, none⟩) gx.length cx] 93, cells b3 [.pointer (some ⟨pp, 0, none⟩), .bool bk, .slice (some ⟨g2, 0, none⟩) gy.length cy] 93]) ?_ ?_
              · (apply ent; (repeat constructor); done)
              apply m_take 0 rfl
              · exact yF rfl (hE.t rfl) rfl
              · with_reducible (repeat (first | exact cB | apply cT | apply cK))
              · kernel_rfl
              · rfl
              apply m_take 1 rfl
              · (apply y_load rfl (hE.t rfl) rfl; (repeat (first | rfl | assumption | constructor)); done)
              · with_reducible (repeat (first | exact cB | apply cT | apply cK))
              · kernel_rfl
              · rfl
              apply m_take 3 rfl
              · exact yF rfl (hE.t rfl) rfl
              · with_reducible (repeat (first | exact cB | apply cT | apply cK))
              · kernel_rfl
              · rfl
              apply m_take 4 rfl
              · (apply y_load rfl (hE.t rfl) rfl; (repeat (first | rfl | assumption | constructor)); done)
              · with_reducible (repeat (first | exact cB | apply cT | apply cK))
              · kernel_rfl
              · rfl
              apply m_take 6 rfl
              · exact yM rfl
              · with_reducible (repeat (first | exact cB | apply cT | apply cK))
              · kernel_rfl
              · rfl
              apply m_loud 2 rfl (by kernel_rfl) rfl
              apply ld_call (ct_clone hE px1 (by omega)) rfl (hE.f (by kernel_rfl))
              · ((repeat constructor); done)
              rintro _ _ ⟨g1', c1', rfl, rfl⟩
              simp only [List.cons_append, List.nil_append]
              refine ⟨by (apply ent; (repeat constructor); done), ?_⟩
              apply m_loud 5 rfl (by kernel_rfl) rfl
              apply ld_call (ct_clone hE py1 (by omega)) rfl (hE.f (by kernel_rfl))
              · ((repeat constructor); done)
              rintro _ _ ⟨g2', c2', rfl, rfl⟩
              simp only [List.cons_append, List.nil_append]
              refine ⟨by (apply ent; (repeat constructor); done), ?_⟩
              apply m_one 7 rfl (by kernel_rfl)
              · (first | exact y_build (hE.t rfl) rfl rfl | exact y_buildA (hE.t rfl) rfl rfl)
              · rfl
              apply m_last rfl (by kernel_rfl) (by kernel_rfl) rfl
              (first | (apply ld_store rfl rfl (hE.t rfl) rfl; (focus ((repeat constructor); done)); (focus rfl); (focus (exact Nat.le_of_ble_eq_true rfl))) | (apply ld_store_sl rfl rfl (hE.t rfl) rfl; (focus ((repeat constructor); done)); (focus rfl); (focus (first | omega | (simp only [cellsL, length_setMany, List.length_cons, List.length_nil]; omega)))))
              refine a_cut (⟨st, sum, gx, gy, gx, gy, some ⟨g1', 0, none⟩, some ⟨g2', 0, none⟩, c1', c2', sum⟩ : CmG) ⟨⟨hst, ⟨w, hw1, hw2, hw3⟩, okx, oky, hcost, lx, ly, fun _ => ⟨[], rfl, rfl, by simp, okx, oky, lx, ly⟩⟩, rfl, rfl, rfl⟩ ⟨rfl, rfl, rfl, rfl, rfl, rfl, rfl, trivial⟩ ?_
              apply ent_trans
              · apply rdP_close (gs := gx) (x := b2) (pv := .pointer (some ⟨pp, 0, none⟩)) (bk := bk)
                · ((repeat constructor); done)
                · rfl
                · rfl
              · apply ent_trans
                · apply rdP_close (gs := gy) (x := b3) (pv := .pointer (some ⟨pp, 0, none⟩)) (bk := bk)
                  · ((repeat constructor); done)
                  · rfl
                  · rfl
                · (apply ent; (repeat constructor); done)
            · skip
              refine w_seq (wR ?_)
              refine lY (yM rfl) rfl ?_
              refine lY (y_gt rfl rfl) rfl ?_
              refine l_nil (aT ?_)
              refine w_cond_d rfl (fun hgt => ?_) (fun hgt => ?_)
              · skip
                obtain ⟨u, hu1, hu2, hu3, hu4, hu5, hu6, hu7⟩ := hmk (by omega)
                refine wR ?_
                refine lY (yM rfl) rfl ?_
                apply lY
                · (apply y_load_agg rfl (hE.t rfl) rfl; (repeat (first | rfl | assumption | constructor)); done)
                · rfl
                apply lY
                · (apply y_load_agg rfl (hE.t rfl) rfl; (repeat (first | rfl | assumption | constructor)); done)
                · rfl
                apply lY
                · (apply y_load_agg rfl (hE.t rfl) rfl; (repeat (first | rfl | assumption | constructor)); done)
                · rfl
                refine lY (yM rfl) rfl ?_
                apply lL (by kernel_rfl) rfl
                apply ld_call (ct_leap hE (L := rls Es) (bk := bk) (u := u) hu4 hu5 okx oky (by omega) (by omega) (by omega) (by omega) hu1 hu2 hu3 (by omega) (by omega)) rfl (hE.f (by kernel_rfl))
                · ((repeat constructor); done)
                rintro _ _ ⟨gx', gy', v, rfl, v1, v2, v3, v4, v5, v6, v7, v8, rfl⟩
                simp only [List.cons_append, List.nil_append]
                have hvl : sum + v.length ≤ 1152921504606846976 := by rw [v1, List.length_append] at hsum; omega
                refine lY (y_add rfl rfl (by omega) (by omega)) rfl ?_
                refine lY (yA rfl) rfl ?_
                refine l_nil ?_
                refine wa_eq 6 (.int .i64 ((sum + v.length : Nat) : Int)) rfl (int_eq (by omega)) ?_
                refine a_cut (⟨st, sum + v.length, gx', gy', mx, my, q1, q2, d1, d2, m0⟩ : CmG) ⟨⟨hst, ⟨w ++ v, by rw [List.append_assoc, ← v1]; exact hw1, by rw [List.append_assoc, ← v2]; exact hw2, by simp [hw3]⟩, v3, v4, by show st + (cost (rls Es) gx' + cost (rls Es) gy') ≤ C0; omega, by show gx'.length ≤ 4194304 + 2 * st; omega, by show gy'.length ≤ 4194304 + 2 * st; omega, fun _ => ⟨u ++ v, by rw [List.append_assoc, ← v1]; exact hu1, by rw [List.append_assoc, ← v2]; exact hu2, by simp; omega, hu4, hu5, hu6, hu7⟩⟩, rfl, v5, v6⟩ ⟨rfl, rfl, rfl, rfl, rfl, rfl, rfl, trivial⟩ ?_
                rw [← v5, ← v6]
                apply ent_trans
                · apply rdP_close (gs := gx') (x := b2) (pv := .pointer (some ⟨pp, 0, none⟩)) (bk := bk)
                  · ((repeat constructor); done)
                  · rfl
                  · rfl
                · apply ent_trans
                  · apply rdP_close (gs := gy') (x := b3) (pv := .pointer (some ⟨pp, 0, none⟩)) (bk := bk)
                    · ((repeat constructor); done)
                    · rfl
                    · rfl
                  · (apply ent; (repeat constructor); done)
              · obtain rfl : st = 1024 := by omega
                exact absurd (by decide) hz
          · skip
            refine l_off rfl rfl rfl rfl (l_off rfl rfl rfl rfl (l_off rfl rfl rfl rfl (l_off rfl rfl rfl rfl (l_off rfl rfl rfl rfl ?_))))
            apply lY
            · (first | exact y_pick_t rfl rfl | exact y_pick_f rfl rfl)
            · rfl
            refine l_nil (aT ?_)
            refine w_cond_f rfl ?_
            refine w_seq (wR ?_)
            refine lY (yM rfl) rfl ?_
            refine lY (y_gt rfl rfl) rfl ?_
            refine l_nil (aT ?_)
            refine w_cond_d rfl (fun hgt => ?_) (fun hgt => ?_)
            · exact absurd hgt (by omega)
            · skip
              refine w_skip ?_
              refine a_cut (⟨st, sum, gx, gy, mx, my, q1, q2, d1, d2, m0⟩ : CmG) ⟨⟨hst, ⟨w, hw1, hw2, hw3⟩, okx, oky, hcost, lx, ly, fun h => absurd h (by show ¬ 1024 ≤ st; omega)⟩, rfl, rfl, rfl⟩ ⟨rfl, rfl, rfl, rfl, rfl, rfl, rfl, trivial⟩ ?_
              apply ent_trans
              · apply rdP_close (gs := gx) (x := b2) (pv := .pointer (some ⟨pp, 0, none⟩)) (bk := bk)
                · ((repeat constructor); done)
                · rfl
                · rfl
              · apply ent_trans
                · apply rdP_close (gs := gy) (x := b3) (pv := .pointer (some ⟨pp, 0, none⟩)) (bk := bk)
                  · ((repeat constructor); done)
                  · rfl
                  · rfl
                · (apply ent; (repeat constructor); done)
        · clear hok hw1 hw2 hw3 okx oky hcost lx ly hmk hsum hsumy hlcp w
          rintro ⟨st', sum, gx', gy', mx, my, q1, q2, d1, d2, m0⟩ ⟨hok, hs1, hs2, hs3⟩
          obtain ⟨w, hw1, hw2, hw3⟩ := hok.w
          have okx := hok.okx
          have oky := hok.oky
          have hcost := hok.cost
          have lx := hok.lx
          have ly := hok.ly
          have hmk := hok.mark
          simp only at hs1 hs2 hs3 hw1 hw2 hw3 okx oky hcost lx ly hmk ⊢
          clear hok
          subst hs1
          rcases List.eq_nil_or_concat gx' with h | ⟨a, ⟨sx, kx⟩, rfl⟩
          · subst h; simp at hs2; omega
          rcases List.eq_nil_or_concat gy' with h | ⟨b, ⟨sy, ky⟩, rfl⟩
          · subst h; simp at hs3; omega
          simp only [List.concat_eq_append] at *
          have hla : (a ++ [(sx, kx)]).length = a.length + 1 := by simp
          have hlb : (b ++ [(sy, ky)]).length = b.length + 1 := by simp
          have hgax : (a ++ [(sx, kx)])[a.length]? = some (sx, kx) := by simp
          have hgby : (b ++ [(sy, ky)])[b.length]? = some (sy, ky) := by simp
          have hox := gok_one.1 (gok_append.1 okx).2
          have hoy := gok_one.1 (gok_append.1 oky).2
          have hox5 := hox.2.2.2.2
          have hoy5 := hoy.2.2.2.2
          unfold maxLength at hox5 hoy5
          have hsum : sum + (strm (rls Es) bk (a ++ [(sx, kx)])).length ≤ 1152921504606846976 := by rw [hw1, List.length_append, hw3] at hX; exact hX
          have hlcp : lcp X Y = sum + lcp (strm (rls Es) bk (a ++ [(sx, kx)])) (strm (rls Es) bk (b ++ [(sy, ky)])) := by rw [hw1, hw2, lcp_append, hw3]
          obtain ⟨ix, rfl⟩ : ∃ i, sx = i + 1 := ⟨sx - 1, by omega⟩
          obtain ⟨iy, rfl⟩ : ∃ i, sy = i + 1 := ⟨sy - 1, by omega⟩
          have hix : ix < Es.length := by have := hox.2.1; rw [rls_length] at this; omega
          have hiy : iy < Es.length := by have := hoy.2.1; rw [rls_length] at this; omega
          have eA : 0 + (((a.length + 1 : Nat) : Int) - 1).toNat * 2 = a.length * 2 := by omega
          have eB : 0 + (((b.length + 1 : Nat) : Int) - 1).toNat * 2 = b.length * 2 := by omega
          have f1 : (gsC (a ++ [(ix + 1, kx)]))[0 + (((a.length + 1 : Nat) : Int) - 1).toNat * 2]? = some (.int .i64 ((ix + 1 : Nat) : Int)) := by rw [eA]; exact (gsC_get hgax).1
          have f2 : (gsC (a ++ [(ix + 1, kx)]))[0 + (((a.length + 1 : Nat) : Int) - 1).toNat * 2 + 1]? = some (.int .i64 (kx : Nat)) := by rw [eA]; exact (gsC_get hgax).2
          have f3 : (gsC (b ++ [(iy + 1, ky)]))[0 + (((b.length + 1 : Nat) : Int) - 1).toNat * 2]? = some (.int .i64 ((iy + 1 : Nat) : Int)) := by rw [eB]; exact (gsC_get hgby).1
          have f4 : (gsC (b ++ [(iy + 1, ky)]))[0 + (((b.length + 1 : Nat) : Int) - 1).toNat * 2 + 1]? = some (.int .i64 (ky : Nat)) := by rw [eB]; exact (gsC_get hgby).2
          rw [hla] at lx hs2
          rw [hlb] at ly hs3
          clear hgax hgby px1 py1 hx0 hy0 hs2 hs3 g1 g2 cx cy gx gy
          skip
          refine w_cut (fun x : Nat × Nat => [(2, .pointer (some ⟨b2, 0, none⟩)), (3, .pointer (some ⟨b3, 0, none⟩)), (5, .pointer (some ⟨pp, 0, none⟩)), (6, .int .i64 (sum : Nat)), (7, .pointer (some ⟨b7, 0, none⟩)), (8, .int .i64 (st' : Nat)), (9, .pointer (some ⟨x.1, 0, none⟩)), (10, .pointer (some ⟨x.2, 0, none⟩)), (18, .int .i64 (st' : Nat))]) (fun x => [rdP b2 (.pointer (some ⟨pp, 0, none⟩)) bk (a ++ [(ix + 1, kx)]), rdP b3 (.pointer (some ⟨pp, 0, none⟩)) bk (b ++ [(iy + 1, ky)]), cells x.1 [.int .i64 ((ix + 1 : Nat) : Int), .int .i64 (kx : Nat)] 138, cells x.2 [.int .i64 ((iy + 1 : Nat) : Int), .int .i64 (ky : Nat)] 138, cells b7 [.slice q1 mx.length d1, .slice q2 my.length d2, .int .i64 (m0 : Nat)] 135, sl q1 d1 138 2 mx.length (gsC mx), sl q2 d2 138 2 my.length (gsC my), cells pp [.pointer (some ⟨s, 0, none⟩), .pointer (some ⟨tb, 0, none⟩)] 78, tabP tb s (rls Es), storeP s most Es, R]) (fun _ => True) ?_ ?_
          · apply w_open (ps := fun i' : Option Addr × Nat => [cells b2 [.pointer (some ⟨pp, 0, none⟩), .bool bk, .slice i'.1 (a ++ [(ix + 1, kx)]).length i'.2] 93, sl i'.1 i'.2 138 2 (a ++ [(ix + 1, kx)]).length (gsC (a ++ [(ix + 1, kx)]))]) (p := rdP b2 (.pointer (some ⟨pp, 0, none⟩)) bk (a ++ [(ix + 1, kx)]))
            · ((repeat constructor); done)
            · exact rdP_open
            rintro ⟨px, cx⟩
            simp only [List.cons_append, List.nil_append]
            apply w_open (ps := fun i' : Option Addr × Nat => [cells b3 [.pointer (some ⟨pp, 0, none⟩), .bool bk, .slice i'.1 (b ++ [(iy + 1, ky)]).length i'.2] 93, sl i'.1 i'.2 138 2 (b ++ [(iy + 1, ky)]).length (gsC (b ++ [(iy + 1, ky)]))]) (p := rdP b3 (.pointer (some ⟨pp, 0, none⟩)) bk (b ++ [(iy + 1, ky)]))
            · ((repeat constructor); done)
            · exact rdP_open
            rintro ⟨py, cy⟩
            simp only [List.cons_append, List.nil_append]
            rw [hla, hlb]
            refine w_say (p := sl px cx 138 2 (a.length + 1) (gsC (a ++ [(ix + 1, kx)]))) (by ((repeat constructor); done)) (fun _ h => sl_form h (by omega)) ?_
            rintro ⟨g1, rfl⟩
            refine w_say (p := sl py cy 138 2 (b.length + 1) (gsC (b ++ [(iy + 1, ky)]))) (by ((repeat constructor); done)) (fun _ h => sl_form h (by omega)) ?_
            rintro ⟨g2, rfl⟩
            skip
            refine w_until 19 ([cells b2 [.pointer (some ⟨pp, 0, none⟩), .bool bk, .slice (some ⟨g1, 0, none⟩) (a.length + 1) cx] 93, cells b3 [.pointer (some ⟨pp, 0, none⟩), .bool bk, .slice (some ⟨g2, 0, none⟩) (b.length + 1) cy] 93, sl (some ⟨g1, 0, none⟩) cx 138 2 (a.length + 1) (gsC (a ++ [(ix + 1, kx)])), sl (some ⟨g2, 0, none⟩) cy 138 2 (b.length + 1) (gsC (b ++ [(iy + 1, ky)]))]) ?_ ?_
            · (apply ent; (repeat constructor); done)
            apply m_take 0 rfl
            · exact yF rfl (hE.t rfl) rfl
            · with_reducible (repeat (first | exact cB | apply cT | apply cK))
            · kernel_rfl
            · rfl
            apply m_take 1 rfl
            · (apply y_load rfl (hE.t rfl) rfl; (repeat (first | rfl | assumption | constructor)); done)
            · with_reducible (repeat (first | exact cB | apply cT | apply cK))
            · kernel_rfl
            · rfl
            apply m_take 2 rfl
            · exact yF rfl (hE.t rfl) rfl
            · with_reducible (repeat (first | exact cB | apply cT | apply cK))
            · kernel_rfl
            · rfl
            apply m_take 3 rfl
            · (apply y_load rfl (hE.t rfl) rfl; (repeat (first | rfl | assumption | constructor)); done)
            · with_reducible (repeat (first | exact cB | apply cT | apply cK))
            · kernel_rfl
            · rfl
            apply m_take 4 rfl
            · exact y_len_slice rfl (hE.t rfl)
            · with_reducible (repeat (first | exact cB | apply cT | apply cK))
            · kernel_rfl
            · rfl
            apply m_take 5 rfl
            · exact y_sub rfl rfl (by omega) (by omega)
            · with_reducible (repeat (first | exact cB | apply cT | apply cK))
            · kernel_rfl
            · rfl
            apply m_take 6 rfl
            · exact y_indexAddr rfl rfl (hE.t rfl) (by omega) (by omega)
            · with_reducible (repeat (first | exact cB | apply cT | apply cK))
            · kernel_rfl
            · rfl
            apply m_take 7 rfl
            · (apply y_load_agg rfl (hE.t rfl) rfl; (repeat (first | rfl | assumption | constructor)); done)
            · with_reducible (repeat (first | exact cB | apply cT | apply cK))
            · kernel_rfl
            · rfl
            apply m_take 8 rfl
            · exact yF rfl (hE.t rfl) rfl
            · with_reducible (repeat (first | exact cB | apply cT | apply cK))
            · kernel_rfl
            · rfl
            apply m_take 9 rfl
            · (apply y_load rfl (hE.t rfl) rfl; (repeat (first | rfl | assumption | constructor)); done)
            · with_reducible (repeat (first | exact cB | apply cT | apply cK))
            · kernel_rfl
            · rfl
            apply m_take 10 rfl
            · exact yF rfl (hE.t rfl) rfl
            · with_reducible (repeat (first | exact cB | apply cT | apply cK))
            · kernel_rfl
            · rfl
            apply m_take 11 rfl
            · (apply y_load rfl (hE.t rfl) rfl; (repeat (first | rfl | assumption | constructor)); done)
            · with_reducible (repeat (first | exact cB | apply cT | apply cK))
            · kernel_rfl
            · rfl
            apply m_take 12 rfl
            · exact y_len_slice rfl (hE.t rfl)
            · with_reducible (repeat (first | exact cB | apply cT | apply cK))
            · kernel_rfl
            · rfl
            apply m_take 13 rfl
            · exact y_sub rfl rfl (by omega) (by omega)
            · with_reducible (repeat (first | exact cB | apply cT | apply cK))
            · kernel_rfl
            · rfl
            apply m_take 14 rfl
            · exact y_indexAddr rfl rfl (hE.t rfl) (by omega) (by omega)
            · with_reducible (repeat (first | exact cB | apply cT | apply cK))
            · kernel_rfl
            · rfl
            apply m_take 15 rfl
            · (apply y_load_agg rfl (hE.t rfl) rfl; (repeat (first | rfl | assumption | constructor)); done)
            · with_reducible (repeat (first | exact cB | apply cT | apply cK))
            · kernel_rfl
            · rfl
            apply m_two 16 17 rfl rfl (by kernel_rfl) rfl rfl
            · refine ld_alloc (hE.t rfl) (fun b9 => ?_)
              refine ⟨by (apply ent; (repeat constructor); done), ?_⟩
              apply m_loud 17 rfl (by kernel_rfl) rfl
              refine ld_alloc (hE.t rfl) (fun b10 => ?_)
              refine ⟨by (apply ent; (repeat constructor); done), ?_⟩
              apply m_loud 18 rfl (by kernel_rfl) rfl
              (first | (apply ld_store rfl rfl (hE.t rfl) rfl; (focus ((repeat constructor); done)); (focus rfl); (focus (exact Nat.le_of_ble_eq_true rfl))) | (apply ld_store_sl rfl rfl (hE.t rfl) rfl; (focus ((repeat constructor); done)); (focus rfl); (focus (first | omega | (simp only [cellsL, length_setMany, List.length_cons, List.length_nil]; omega)))))
              refine ⟨by (apply ent; (repeat constructor); done), ?_⟩
              apply m_last rfl (by kernel_rfl) (by kernel_rfl) rfl
              (first | (apply ld_store rfl rfl (hE.t rfl) rfl; (focus ((repeat constructor); done)); (focus rfl); (focus (exact Nat.le_of_ble_eq_true rfl))) | (apply ld_store_sl rfl rfl (hE.t rfl) rfl; (focus ((repeat constructor); done)); (focus rfl); (focus (first | omega | (simp only [cellsL, length_setMany, List.length_cons, List.length_nil]; omega)))))
              refine a_cut (b9, b10) trivial ⟨rfl, rfl, rfl, rfl, rfl, rfl, rfl, rfl, rfl, trivial⟩ ?_
              apply ent_trans
              · apply rdP_close (gs := a ++ [(ix + 1, kx)]) (x := b2) (pv := .pointer (some ⟨pp, 0, none⟩)) (bk := bk)
                · ((repeat constructor); done)
                · exact hla.symm
                · rfl
              · apply ent_trans
                · apply rdP_close (gs := b ++ [(iy + 1, ky)]) (x := b3) (pv := .pointer (some ⟨pp, 0, none⟩)) (bk := bk)
                  · ((repeat constructor); done)
                  · exact hlb.symm
                  · rfl
                · (apply ent; (repeat constructor); done)
            · refine ld_alloc (hE.t rfl) (fun b10 => ?_)
              refine ⟨by (apply ent; (repeat constructor); done), ?_⟩
              apply m_loud 16 rfl (by kernel_rfl) rfl
              refine ld_alloc (hE.t rfl) (fun b9 => ?_)
              refine ⟨by (apply ent; (repeat constructor); done), ?_⟩
              apply m_loud 18 rfl (by kernel_rfl) rfl
              (first | (apply ld_store rfl rfl (hE.t rfl) rfl; (focus ((repeat constructor); done)); (focus rfl); (focus (exact Nat.le_of_ble_eq_true rfl))) | (apply ld_store_sl rfl rfl (hE.t rfl) rfl; (focus ((repeat constructor); done)); (focus rfl); (focus (first | omega | (simp only [cellsL, length_setMany, List.length_cons, List.length_nil]; omega)))))
              refine ⟨by (apply ent; (repeat constructor); done), ?_⟩
              apply m_last rfl (by kernel_rfl) (by kernel_rfl) rfl
              (first | (apply ld_store rfl rfl (hE.t rfl) rfl; (focus ((repeat constructor); done)); (focus rfl); (focus (exact Nat.le_of_ble_eq_true rfl))) | (apply ld_store_sl rfl rfl (hE.t rfl) rfl; (focus ((repeat constructor); done)); (focus rfl); (focus (first | omega | (simp only [cellsL, length_setMany, List.length_cons, List.length_nil]; omega)))))
              refine a_cut (b9, b10) trivial ⟨rfl, rfl, rfl, rfl, rfl, rfl, rfl, rfl, rfl, trivial⟩ ?_
              apply ent_trans
              · apply rdP_close (gs := a ++ [(ix + 1, kx)]) (x := b2) (pv := .pointer (some ⟨pp, 0, none⟩)) (bk := bk)
                · ((repeat constructor); done)
                · exact hla.symm
                · rfl
              · apply ent_trans
                · apply rdP_close (gs := b ++ [(iy + 1, ky)]) (x := b3) (pv := .pointer (some ⟨pp, 0, none⟩)) (bk := bk)
                  · ((repeat constructor); done)
                  · exact hlb.symm
                  · rfl
                · (apply ent; (repeat constructor); done)
          · rintro ⟨b9, b10⟩ _
            simp only
            skip
            refine w_seq (w_seq (wR ?_))
            refine lY (yF rfl (hE.t rfl) rfl) rfl ?_
            apply lY
            · (apply y_load rfl (hE.t rfl) rfl; (repeat (first | rfl | assumption | constructor)); done)
            · rfl
            refine lY (yF rfl (hE.t rfl) rfl) rfl ?_
            apply lY
            · (apply y_load rfl (hE.t rfl) rfl; (repeat (first | rfl | assumption | constructor)); done)
            · rfl
            refine lY (y_eq rfl rfl) rfl ?_
            refine l_nil (aT ?_)
            refine w_cond_d rfl (fun heq => ?_) (fun heq => ?_)
            · skip
              obtain rfl : ix = iy := by omega
              obtain ⟨m, hm⟩ : ∃ m, m = min kx ky := ⟨_, rfl⟩
              have hmm : (if (ky : Int) < (kx : Int) then (ky : Int) else (kx : Int)) = (m : Nat) := by split <;> omega
              have hsx := strm_drop (L := rls Es) (bk := bk) (a := a) (sy := ix + 1) (k := kx) (m := m) (by omega)
              have hsy := strm_drop (L := rls Es) (bk := bk) (a := b) (sy := ix + 1) (k := ky) (m := m) (by omega)
              have hcx := cost_drop (L := rls Es) (a := a) (sy := ix + 1) (k := kx) (m := m) (by omega)
              have hcy := cost_drop (L := rls Es) (a := b) (sy := ix + 1) (k := ky) (m := m) (by omega)
              have hlp := len_pos hwf (ix + 1) (by omega) (by rw [rls_length]; omega)
              have hlm : m * len (rls Es) (ix + 1) + sum ≤ 1152921504606846976 := by
                rw [hsx, List.length_append, rep_length, tx_length] at hsum; omega
              have hll := hwf.short (ix + 1)
              unfold maxLength at hll
              have m1 : (m : Int) * (len (rls Es) (ix + 1) : Int) = ((m * len (rls Es) (ix + 1) : Nat) : Int) := (Int.natCast_mul ..).symm
              have b1 : 0 ≤ (m : Int) * (len (rls Es) (ix + 1) : Int) ∧ (m : Int) * (len (rls Es) (ix + 1) : Int) + sum ≤ 1152921504606846976 := by rw [m1]; omega
              have hm1 : 1 ≤ m * (2 * len (rls Es) (ix + 1) - 1) := Nat.le_trans (by omega) (Nat.mul_le_mul (show 1 ≤ m by omega) (show 1 ≤ 2 * len (rls Es) (ix + 1) - 1 by omega))
              have hdx : (dropG a (ix + 1) kx m).length ≤ a.length + 1 := by unfold dropG; split <;> simp
              have hdy : (dropG b (ix + 1) ky m).length ≤ b.length + 1 := by unfold dropG; split <;> simp
              refine w_seq (wR ?_)
              refine lY (yF rfl (hE.t rfl) rfl) rfl ?_
              apply lY
              · (apply y_load rfl (hE.t rfl) rfl; (repeat (first | rfl | assumption | constructor)); done)
              · rfl
              refine lY (yF rfl (hE.t rfl) rfl) rfl ?_
              apply lY
              · (apply y_load rfl (hE.t rfl) rfl; (repeat (first | rfl | assumption | constructor)); done)
              · rfl
              refine lY (y_min rfl rfl) rfl ?_
              refine lY (yA rfl) rfl ?_
              refine l_nil (aT ?_)
              refine w_eq 11 (.int .i64 (m : Nat)) rfl (int_eq hmm) ?_
              refine w_seq (wR ?_)
              refine lY (yM rfl) rfl ?_
              refine lY (yM rfl) rfl ?_
              refine lY (yM rfl) rfl ?_
              refine lY (yF rfl (hE.t rfl) rfl) rfl ?_
              apply lY
              · (apply y_load rfl (hE.t rfl) rfl; (repeat (first | rfl | assumption | constructor)); done)
              · rfl
              apply lL (by kernel_rfl) rfl
              apply ld_call (ct_size hE hix) rfl (hE.f (by kernel_rfl))
              · ((repeat constructor); done)
              rintro _ _ ⟨rfl, rfl⟩
              simp only [List.cons_append, List.nil_append]
              refine lY (y_mul rfl rfl (by omega) (by omega)) rfl ?_
              refine lY (y_add rfl rfl (by omega) (by omega)) rfl ?_
              refine lY (yA rfl) rfl ?_
              refine l_nil (aT (w_seq (wR ?_)))
              refine lY (yM rfl) rfl ?_
              apply lL (by kernel_rfl) rfl
              apply ld_call (ct_drop hE (a := a) (sy := ix + 1) (k := kx) (m := m) (by omega) hox5 (by omega)) rfl (hE.f (by kernel_rfl))
              · ((repeat constructor); done)
              rintro _ _ ⟨rfl, rfl⟩
              simp only [List.cons_append, List.nil_append]
              refine l_nil (aT (w_seq (wR ?_)))
              refine lY (yM rfl) rfl ?_
              apply lL (by kernel_rfl) rfl
              apply ld_call (ct_drop hE (a := b) (sy := ix + 1) (k := ky) (m := m) (by omega) hoy5 (by omega)) rfl (hE.f (by kernel_rfl))
              · ((repeat constructor); done)
              rintro _ _ ⟨rfl, rfl⟩
              simp only [List.cons_append, List.nil_append]
              refine l_nil (aT (w_exit (a_then_exit (a_block_exit (aT (wR ?_))))))
              refine lY (y_add rfl rfl (by omega) (by omega)) rfl ?_
              refine lY (yM rfl) rfl ?_
              refine l_nil ?_
              refine wa_eq 6 (.int .i64 ((sum + m * len (rls Es) (ix + 1) : Nat) : Int)) rfl (int_eq (by rw [m1]; omega)) ?_
              refine wa_eq 18 (.int .i64 ((st' + 1 : Nat) : Int)) rfl (int_eq (by omega)) ?_
              refine a_round (ι := CmG) (j := ⟨st' + 1, sum + m * len (rls Es) (ix + 1), dropG a (ix + 1) kx m, dropG b (ix + 1) ky m, mx, my, q1, q2, d1, d2, m0⟩) ?_ ?_ ?_ ?_
              · refine ⟨by show st' + 1 ≤ 16777216; omega, ⟨w ++ rep m (tx (rls Es) bk (ix + 1)), by rw [List.append_assoc, ← hsx]; exact hw1, by rw [List.append_assoc, ← hsy]; exact hw2, by simp [hw3, rep_length, tx_length]⟩, gok_drop okx (by omega), gok_drop oky (by omega), by show st' + 1 + (cost _ (dropG a (ix + 1) kx m) + cost _ (dropG b (ix + 1) ky m)) ≤ C0; omega, by show (dropG a (ix + 1) kx m).length ≤ 4194304 + 2 * (st' + 1); omega, by show (dropG b (ix + 1) ky m).length ≤ 4194304 + 2 * (st' + 1); omega, fun h => ?_⟩
                obtain ⟨u, u1, u2, u3, u4, u5, u6, u7⟩ := hmk (by have : 1025 ≤ st' + 1 := h; omega)
                exact ⟨u ++ rep m (tx (rls Es) bk (ix + 1)), by rw [List.append_assoc, ← hsx]; exact u1, by rw [List.append_assoc, ← hsy]; exact u2, by simp [rep_length, tx_length]; omega, u4, u5, by show mx.length ≤ 4194304 + 2 * (st' + 1); omega, by show my.length ≤ 4194304 + 2 * (st' + 1); omega⟩
              · show 16777216 - (st' + 1) < 16777216 - st'; omega
              · exact ⟨rfl, rfl, rfl, rfl, rfl, rfl, trivial⟩
              · (apply ent; (repeat constructor); done)
            · skip
              refine w_skip (aT ?_)
              refine w_seq ?_
              refine w_held ([cells b9 [.int .i64 ((ix + 1 : Nat) : Int), .int .i64 (kx : Nat)] 138]) ?_ ?_
              · (apply ent; (repeat constructor); done)
              apply d_take 0 rfl
              · exact yM rfl
              · with_reducible (repeat (first | exact cB | apply cT | apply cK))
              · kernel_rfl
              · rfl
              apply d_take 2 rfl
              · exact yF rfl (hE.t rfl) rfl
              · with_reducible (repeat (first | exact cB | apply cT | apply cK))
              · kernel_rfl
              · rfl
              apply d_take 3 rfl
              · (apply y_load rfl (hE.t rfl) rfl; (repeat (first | rfl | assumption | constructor)); done)
              · with_reducible (repeat (first | exact cB | apply cT | apply cK))
              · kernel_rfl
              · rfl
              apply d_loud 1 rfl (by kernel_rfl) rfl
              apply ld_call (ct_Keys hE) rfl (hE.f (by kernel_rfl))
              · ((repeat constructor); done)
              rintro _ _ ⟨rfl, rfl⟩
              simp only [List.cons_append, List.nil_append]
              refine ⟨by (apply ent; (repeat constructor); done), ?_⟩
              apply d_loud 4 rfl (by kernel_rfl) rfl
              apply ld_call (ct_level hE hB hix hox.2.2.1) rfl (hE.f (by kernel_rfl))
              · ((repeat constructor); done)
              rintro _ _ ⟨rfl, rfl⟩
              simp only [List.cons_append, List.nil_append]
              refine ⟨by (apply ent; (repeat constructor); done), ?_⟩
              apply d_take 5 rfl
              · exact yM rfl
              · with_reducible (repeat (first | exact cB | apply cT | apply cK))
              · kernel_rfl
              · rfl
              apply d_take 6 rfl
              · exact y_extract rfl rfl
              · with_reducible (repeat (first | exact cB | apply cT | apply cK))
              · kernel_rfl
              · rfl
              apply d_take 7 rfl
              · exact y_extract rfl rfl
              · with_reducible (repeat (first | exact cB | apply cT | apply cK))
              · kernel_rfl
              · rfl
              apply d_take 8 rfl
              · exact yA rfl
              · with_reducible (repeat (first | exact cB | apply cT | apply cK))
              · kernel_rfl
              · rfl
              apply d_take 9 rfl
              · exact yA rfl
              · with_reducible (repeat (first | exact cB | apply cT | apply cK))
              · kernel_rfl
              · rfl
              refine d_nil (by kernel_rfl) ?_
              refine aT ?_
              refine w_seq ?_
              refine w_held ([cells b10 [.int .i64 ((iy + 1 : Nat) : Int), .int .i64 (ky : Nat)] 138]) ?_ ?_
              · (apply ent; (repeat constructor); done)
              apply d_take 0 rfl
              · exact yM rfl
              · with_reducible (repeat (first | exact cB | apply cT | apply cK))
              · kernel_rfl
              · rfl
              apply d_take 2 rfl
              · exact yF rfl (hE.t rfl) rfl
              · with_reducible (repeat (first | exact cB | apply cT | apply cK))
              · kernel_rfl
              · rfl
              apply d_take 3 rfl
              · (apply y_load rfl (hE.t rfl) rfl; (repeat (first | rfl | assumption | constructor)); done)
              · with_reducible (repeat (first | exact cB | apply cT | apply cK))
              · kernel_rfl
              · rfl
              apply d_loud 1 rfl (by kernel_rfl) rfl
              apply ld_call (ct_Keys hE) rfl (hE.f (by kernel_rfl))
              · ((repeat constructor); done)
              rintro _ _ ⟨rfl, rfl⟩
              simp only [List.cons_append, List.nil_append]
              refine ⟨by (apply ent; (repeat constructor); done), ?_⟩
              apply d_loud 4 rfl (by kernel_rfl) rfl
              apply ld_call (ct_level hE hB hiy hoy.2.2.1) rfl (hE.f (by kernel_rfl))
              · ((repeat constructor); done)
              rintro _ _ ⟨rfl, rfl⟩
              simp only [List.cons_append, List.nil_append]
              refine ⟨by (apply ent; (repeat constructor); done), ?_⟩
              apply d_take 5 rfl
              · exact yM rfl
              · with_reducible (repeat (first | exact cB | apply cT | apply cK))
              · kernel_rfl
              · rfl
              apply d_take 6 rfl
              · exact y_extract rfl rfl
              · with_reducible (repeat (first | exact cB | apply cT | apply cK))
              · kernel_rfl
              · rfl
              apply d_take 7 rfl
              · exact y_extract rfl rfl
              · with_reducible (repeat (first | exact cB | apply cT | apply cK))
              · kernel_rfl
              · rfl
              apply d_take 8 rfl
              · exact yA rfl
              · with_reducible (repeat (first | exact cB | apply cT | apply cK))
              · kernel_rfl
              · rfl
              apply d_take 9 rfl
              · exact yA rfl
              · with_reducible (repeat (first | exact cB | apply cT | apply cK))
              · kernel_rfl
              · rfl
              refine d_nil (by kernel_rfl) ?_
              refine aT (w_seq (w_seq (wR ?_)))
              refine lY (yM rfl) rfl ?_
              refine lY (y_eq rfl rfl) rfl ?_
              refine lY (yM rfl) rfl ?_
              refine l_split 113 rfl (fun z1 => ?_) (fun z1 => ?_)
              · skip
                refine l_on rfl rfl ?_
                refine lY (yM rfl) rfl ?_
                refine l_on rfl rfl ?_
                refine lY (y_eq rfl rfl) rfl ?_
                apply lY
                · (first | exact y_pick_t rfl rfl | exact y_pick_f rfl rfl)
                · rfl
                refine l_nil (aT ?_)
                refine w_cond_d rfl (fun z2 => ?_) (fun z2 => ?_)
                · skip
                  refine w_exit (a_then_exit (a_block_far rfl (a_then_exit (a_then_exit (a_block_exit (aT (w_seq ?_)))))))
                  refine wR ?_
                  refine lY (yM rfl) rfl ?_
                  refine lY (yA rfl) rfl ?_
                  refine l_nil (aT (w_ret ?_))
                  obtain ⟨ca, hca⟩ := lvl_zero hwf (by rw [rls_length]; exact hix) z1
                  obtain ⟨cb, hcb⟩ := lvl_zero hwf (by rw [rls_length]; exact hiy) z2
                  have hne : ca ≠ cb := by
                    rintro rfl
                    exact heq (by rw [hwf.nodup ix iy _ hca hcb])
                  have hz : lcp (strm (rls Es) bk (a ++ [(ix + 1, kx)])) (strm (rls Es) bk (b ++ [(iy + 1, ky)])) = 0 := by
                    rw [strm_snoc, strm_snoc, tx_letter hca, tx_letter hcb, show kx = (kx - 1) + 1 by omega, show ky = (ky - 1) + 1 by omega, rep_succ, rep_succ]
                    exact lcp_ne hne _ _
                  apply a_ret
                  · rfl
                  · (apply Rs.tmp rfl; exact Rs.nil)
                  · exact ⟨sum, rfl, by omega, fun _ => by omega, rfl⟩
                  · (apply ent; (repeat constructor); done)
                · skip
                  have hnz : ¬ (lvl (rls Es) (ix + 1) = 0 ∧ lvl (rls Es) (iy + 1) = 0) := fun h => z2 h.2
                  have hentx : Es[ix]? = some (Es[ix]'hix) := List.getElem?_eq_getElem hix
                  generalize Es[ix]'hix = enx at hentx
                  have henty : Es[iy]? = some (Es[iy]'hiy) := List.getElem?_eq_getElem hiy
                  generalize Es[iy]'hiy = eny at henty
                  have px := hox.2.2.1
                  have py := hoy.2.2.1
                  refine w_skip (aT (w_seq (w_seq (wR ?_))))
                  refine lY (yM rfl) rfl ?_
                  refine lY (yM rfl) rfl ?_
                  refine lY (y_ge rfl rfl) rfl ?_
                  refine l_nil (aT ?_)
                  refine w_cond_d rfl (fun hge => ?_) (fun hge => ?_)
                  · skip
                    obtain ⟨x1, x2, x3, x4⟩ := open_facts hwf (bk := bk) (rls_get hentx) okx (by omega)
                    refine wR ?_
                    apply lL (by kernel_rfl) rfl
                    apply ld_call (ct_open_ hE (a := a) hentx hox.2.2.2.1 hox5 (by omega)) rfl (hE.f (by kernel_rfl))
                    · ((repeat constructor); done)
                    rintro _ _ ⟨rfl, rfl⟩
                    simp only [List.cons_append, List.nil_append]
                    refine l_nil (aT (w_seq (wR ?_)))
                    refine lY (yM rfl) rfl ?_
                    refine lY (yM rfl) rfl ?_
                    refine lY (y_ge rfl rfl) rfl ?_
                    refine l_nil (aT ?_)
                    refine w_cond_d rfl (fun hge2 => ?_) (fun hge2 => ?_)
                    · skip
                      obtain ⟨y1, y2, y3, y4⟩ := open_facts hwf (bk := bk) (rls_get henty) oky (by omega)
                      refine wR ?_
                      apply lL (by kernel_rfl) rfl
                      apply ld_call (ct_open_ hE (a := b) henty hoy.2.2.2.1 hoy5 (by omega)) rfl (hE.f (by kernel_rfl))
                      · ((repeat constructor); done)
                      rintro _ _ ⟨rfl, rfl⟩
                      simp only [List.cons_append, List.nil_append]
                      refine l_nil (a_block (aT (wR ?_)))
                      refine lY (y_add rfl rfl (by omega) (by omega)) rfl ?_
                      refine lY (yM rfl) rfl ?_
                      refine l_nil ?_
                      have sx : strm (rls Es) bk (dropG a (ix + 1) kx 1 ++ refsG bk enx.r) = strm (rls Es) bk (a ++ [(ix + 1, kx)]) := x1
                      have sy : strm (rls Es) bk (dropG b (iy + 1) ky 1 ++ refsG bk eny.r) = strm (rls Es) bk (b ++ [(iy + 1, ky)]) := y1
                      refine wa_eq 18 (.int .i64 ((st' + 1 : Nat) : Int)) rfl (int_eq (by omega)) ?_
                      refine a_round (ι := CmG) (j := ⟨st' + 1, sum, dropG a (ix + 1) kx 1 ++ refsG bk enx.r, dropG b (iy + 1) ky 1 ++ refsG bk eny.r, mx, my, q1, q2, d1, d2, m0⟩) ?_ ?_ ?_ ?_
                      · refine ⟨by show st' + 1 ≤ 16777216; omega, ⟨w, by rw [sx]; exact hw1, by rw [sy]; exact hw2, hw3⟩, x2, y2, by show st' + 1 + (cost _ (dropG a (ix + 1) kx 1 ++ refsG bk enx.r) + cost _ (dropG b (iy + 1) ky 1 ++ refsG bk eny.r)) ≤ C0; omega, by show (dropG a (ix + 1) kx 1 ++ refsG bk enx.r).length ≤ 4194304 + 2 * (st' + 1); omega, by show (dropG b (iy + 1) ky 1 ++ refsG bk eny.r).length ≤ 4194304 + 2 * (st' + 1); omega, fun h => ?_⟩
                        obtain ⟨u, u1, u2, u3, u4, u5, u6, u7⟩ := hmk (by have : 1025 ≤ st' + 1 := h; omega)
                        exact ⟨u, by rw [sx]; exact u1, by rw [sy]; exact u2, u3, u4, u5, by show mx.length ≤ 4194304 + 2 * (st' + 1); omega, by show my.length ≤ 4194304 + 2 * (st' + 1); omega⟩
                      · show 16777216 - (st' + 1) < 16777216 - st'; omega
                      · exact ⟨rfl, rfl, rfl, rfl, rfl, rfl, trivial⟩
                      · (apply ent; (repeat constructor); done)
                    · skip
                      refine w_skip (a_block (aT (wR ?_)))
                      refine lY (y_add rfl rfl (by omega) (by omega)) rfl ?_
                      refine lY (yM rfl) rfl ?_
                      refine l_nil ?_
                      have sx : strm (rls Es) bk (dropG a (ix + 1) kx 1 ++ refsG bk enx.r) = strm (rls Es) bk (a ++ [(ix + 1, kx)]) := x1
                      have sy : strm (rls Es) bk (b ++ [(iy + 1, ky)]) = strm (rls Es) bk (b ++ [(iy + 1, ky)]) := rfl
                      refine wa_eq 18 (.int .i64 ((st' + 1 : Nat) : Int)) rfl (int_eq (by omega)) ?_
                      refine a_round (ι := CmG) (j := ⟨st' + 1, sum, dropG a (ix + 1) kx 1 ++ refsG bk enx.r, b ++ [(iy + 1, ky)], mx, my, q1, q2, d1, d2, m0⟩) ?_ ?_ ?_ ?_
                      · refine ⟨by show st' + 1 ≤ 16777216; omega, ⟨w, by rw [sx]; exact hw1, by rw [sy]; exact hw2, hw3⟩, x2, oky, by show st' + 1 + (cost _ (dropG a (ix + 1) kx 1 ++ refsG bk enx.r) + cost _ (b ++ [(iy + 1, ky)])) ≤ C0; omega, by show (dropG a (ix + 1) kx 1 ++ refsG bk enx.r).length ≤ 4194304 + 2 * (st' + 1); omega, by show (b ++ [(iy + 1, ky)]).length ≤ 4194304 + 2 * (st' + 1); omega, fun h => ?_⟩
                        obtain ⟨u, u1, u2, u3, u4, u5, u6, u7⟩ := hmk (by have : 1025 ≤ st' + 1 := h; omega)
                        exact ⟨u, by rw [sx]; exact u1, by rw [sy]; exact u2, u3, u4, u5, by show mx.length ≤ 4194304 + 2 * (st' + 1); omega, by show my.length ≤ 4194304 + 2 * (st' + 1); omega⟩
                      · show 16777216 - (st' + 1) < 16777216 - st'; omega
                      · exact ⟨rfl, rfl, rfl, rfl, rfl, rfl, trivial⟩
                      · (apply ent; (repeat constructor); done)
                  · skip
                    refine w_skip (aT (w_seq (wR ?_)))
                    refine lY (yM rfl) rfl ?_
                    refine lY (yM rfl) rfl ?_
                    refine lY (y_ge rfl rfl) rfl ?_
                    refine l_nil (aT ?_)
                    refine w_cond_d rfl (fun hge2 => ?_) (fun hge2 => ?_)
                    · skip
                      obtain ⟨y1, y2, y3, y4⟩ := open_facts hwf (bk := bk) (rls_get henty) oky (by omega)
                      refine wR ?_
                      apply lL (by kernel_rfl) rfl
                      apply ld_call (ct_open_ hE (a := b) henty hoy.2.2.2.1 hoy5 (by omega)) rfl (hE.f (by kernel_rfl))
                      · ((repeat constructor); done)
                      rintro _ _ ⟨rfl, rfl⟩
                      simp only [List.cons_append, List.nil_append]
                      refine l_nil (a_block (aT (wR ?_)))
                      refine lY (y_add rfl rfl (by omega) (by omega)) rfl ?_
                      refine lY (yM rfl) rfl ?_
                      refine l_nil ?_
                      have sx : strm (rls Es) bk (a ++ [(ix + 1, kx)]) = strm (rls Es) bk (a ++ [(ix + 1, kx)]) := rfl
                      have sy : strm (rls Es) bk (dropG b (iy + 1) ky 1 ++ refsG bk eny.r) = strm (rls Es) bk (b ++ [(iy + 1, ky)]) := y1
                      refine wa_eq 18 (.int .i64 ((st' + 1 : Nat) : Int)) rfl (int_eq (by omega)) ?_
                      refine a_round (ι := CmG) (j := ⟨st' + 1, sum, a ++ [(ix + 1, kx)], dropG b (iy + 1) ky 1 ++ refsG bk eny.r, mx, my, q1, q2, d1, d2, m0⟩) ?_ ?_ ?_ ?_
                      · refine ⟨by show st' + 1 ≤ 16777216; omega, ⟨w, by rw [sx]; exact hw1, by rw [sy]; exact hw2, hw3⟩, okx, y2, by show st' + 1 + (cost _ (a ++ [(ix + 1, kx)]) + cost _ (dropG b (iy + 1) ky 1 ++ refsG bk eny.r)) ≤ C0; omega, by show (a ++ [(ix + 1, kx)]).length ≤ 4194304 + 2 * (st' + 1); omega, by show (dropG b (iy + 1) ky 1 ++ refsG bk eny.r).length ≤ 4194304 + 2 * (st' + 1); omega, fun h => ?_⟩
                        obtain ⟨u, u1, u2, u3, u4, u5, u6, u7⟩ := hmk (by have : 1025 ≤ st' + 1 := h; omega)
                        exact ⟨u, by rw [sx]; exact u1, by rw [sy]; exact u2, u3, u4, u5, by show mx.length ≤ 4194304 + 2 * (st' + 1); omega, by show my.length ≤ 4194304 + 2 * (st' + 1); omega⟩
                      · show 16777216 - (st' + 1) < 16777216 - st'; omega
                      · exact ⟨rfl, rfl, rfl, rfl, rfl, rfl, trivial⟩
                      · (apply ent; (repeat constructor); done)
                    · exact absurd hge2 (by omega)
              · skip
                refine l_off rfl rfl rfl rfl (l_off rfl rfl rfl rfl ?_)
                apply lY
                · (first | exact y_pick_t rfl rfl | exact y_pick_f rfl rfl)
                · rfl
                refine l_nil (aT ?_)
                refine w_cond_f rfl ?_
                have hnz : ¬ (lvl (rls Es) (ix + 1) = 0 ∧ lvl (rls Es) (iy + 1) = 0) := fun h => z1 h.1
                have hentx : Es[ix]? = some (Es[ix]'hix) := List.getElem?_eq_getElem hix
                generalize Es[ix]'hix = enx at hentx
                have henty : Es[iy]? = some (Es[iy]'hiy) := List.getElem?_eq_getElem hiy
                generalize Es[iy]'hiy = eny at henty
                have px := hox.2.2.1
                have py := hoy.2.2.1
                refine w_skip (aT (w_seq (w_seq (wR ?_))))
                refine lY (yM rfl) rfl ?_
                refine lY (yM rfl) rfl ?_
                refine lY (y_ge rfl rfl) rfl ?_
                refine l_nil (aT ?_)
                refine w_cond_d rfl (fun hge => ?_) (fun hge => ?_)
                · skip
                  obtain ⟨x1, x2, x3, x4⟩ := open_facts hwf (bk := bk) (rls_get hentx) okx (by omega)
                  refine wR ?_
                  apply lL (by kernel_rfl) rfl
                  apply ld_call (ct_open_ hE (a := a) hentx hox.2.2.2.1 hox5 (by omega)) rfl (hE.f (by kernel_rfl))
                  · ((repeat constructor); done)
                  rintro _ _ ⟨rfl, rfl⟩
                  simp only [List.cons_append, List.nil_append]
                  refine l_nil (aT (w_seq (wR ?_)))
                  refine lY (yM rfl) rfl ?_
                  refine lY (yM rfl) rfl ?_
                  refine lY (y_ge rfl rfl) rfl ?_
                  refine l_nil (aT ?_)
                  refine w_cond_d rfl (fun hge2 => ?_) (fun hge2 => ?_)
                  · skip
                    obtain ⟨y1, y2, y3, y4⟩ := open_facts hwf (bk := bk) (rls_get henty) oky (by omega)
                    refine wR ?_
                    apply lL (by kernel_rfl) rfl
                    apply ld_call (ct_open_ hE (a := b) henty hoy.2.2.2.1 hoy5 (by omega)) rfl (hE.f (by kernel_rfl))
                    · ((repeat constructor); done)
                    rintro _ _ ⟨rfl, rfl⟩
                    simp only [List.cons_append, List.nil_append]
                    refine l_nil (a_block (aT (wR ?_)))
                    refine lY (y_add rfl rfl (by omega) (by omega)) rfl ?_
                    refine lY (yM rfl) rfl ?_
                    refine l_nil ?_
                    have sx : strm (rls Es) bk (dropG a (ix + 1) kx 1 ++ refsG bk enx.r) = strm (rls Es) bk (a ++ [(ix + 1, kx)]) := x1
                    have sy : strm (rls Es) bk (dropG b (iy + 1) ky 1 ++ refsG bk eny.r) = strm (rls Es) bk (b ++ [(iy + 1, ky)]) := y1
                    refine wa_eq 18 (.int .i64 ((st' + 1 : Nat) : Int)) rfl (int_eq (by omega)) ?_
                    refine a_round (ι := CmG) (j := ⟨st' + 1, sum, dropG a (ix + 1) kx 1 ++ refsG bk enx.r, dropG b (iy + 1) ky 1 ++ refsG bk eny.r, mx, my, q1, q2, d1, d2, m0⟩) ?_ ?_ ?_ ?_
                    · refine ⟨by show st' + 1 ≤ 16777216; omega, ⟨w, by rw [sx]; exact hw1, by rw [sy]; exact hw2, hw3⟩, x2, y2, by show st' + 1 + (cost _ (dropG a (ix + 1) kx 1 ++ refsG bk enx.r) + cost _ (dropG b (iy + 1) ky 1 ++ refsG bk eny.r)) ≤ C0; omega, by show (dropG a (ix + 1) kx 1 ++ refsG bk enx.r).length ≤ 4194304 + 2 * (st' + 1); omega, by show (dropG b (iy + 1) ky 1 ++ refsG bk eny.r).length ≤ 4194304 + 2 * (st' + 1); omega, fun h => ?_⟩
                      obtain ⟨u, u1, u2, u3, u4, u5, u6, u7⟩ := hmk (by have : 1025 ≤ st' + 1 := h; omega)
                      exact ⟨u, by rw [sx]; exact u1, by rw [sy]; exact u2, u3, u4, u5, by show mx.length ≤ 4194304 + 2 * (st' + 1); omega, by show my.length ≤ 4194304 + 2 * (st' + 1); omega⟩
                    · show 16777216 - (st' + 1) < 16777216 - st'; omega
                    · exact ⟨rfl, rfl, rfl, rfl, rfl, rfl, trivial⟩
                    · (apply ent; (repeat constructor); done)
                  · skip
                    refine w_skip (a_block (aT (wR ?_)))
                    refine lY (y_add rfl rfl (by omega) (by omega)) rfl ?_
                    refine lY (yM rfl) rfl ?_
                    refine l_nil ?_
                    have sx : strm (rls Es) bk (dropG a (ix + 1) kx 1 ++ refsG bk enx.r) = strm (rls Es) bk (a ++ [(ix + 1, kx)]) := x1
                    have sy : strm (rls Es) bk (b ++ [(iy + 1, ky)]) = strm (rls Es) bk (b ++ [(iy + 1, ky)]) := rfl
                    refine wa_eq 18 (.int .i64 ((st' + 1 : Nat) : Int)) rfl (int_eq (by omega)) ?_
                    refine a_round (ι := CmG) (j := ⟨st' + 1, sum, dropG a (ix + 1) kx 1 ++ refsG bk enx.r, b ++ [(iy + 1, ky)], mx, my, q1, q2, d1, d2, m0⟩) ?_ ?_ ?_ ?_
                    · refine ⟨by show st' + 1 ≤ 16777216; omega, ⟨w, by rw [sx]; exact hw1, by rw [sy]; exact hw2, hw3⟩, x2, oky, by show st' + 1 + (cost _ (dropG a (ix + 1) kx 1 ++ refsG bk enx.r) + cost _ (b ++ [(iy + 1, ky)])) ≤ C0; omega, by show (dropG a (ix + 1) kx 1 ++ refsG bk enx.r).length ≤ 4194304 + 2 * (st' + 1); omega, by show (b ++ [(iy + 1, ky)]).length ≤ 4194304 + 2 * (st' + 1); omega, fun h => ?_⟩
                      obtain ⟨u, u1, u2, u3, u4, u5, u6, u7⟩ := hmk (by have : 1025 ≤ st' + 1 := h; omega)
                      exact ⟨u, by rw [sx]; exact u1, by rw [sy]; exact u2, u3, u4, u5, by show mx.length ≤ 4194304 + 2 * (st' + 1); omega, by show my.length ≤ 4194304 + 2 * (st' + 1); omega⟩
                    · show 16777216 - (st' + 1) < 16777216 - st'; omega
                    · exact ⟨rfl, rfl, rfl, rfl, rfl, rfl, trivial⟩
                    · (apply ent; (repeat constructor); done)
                · skip
                  refine w_skip (aT (w_seq (wR ?_)))
                  refine lY (yM rfl) rfl ?_
                  refine lY (yM rfl) rfl ?_
                  refine lY (y_ge rfl rfl) rfl ?_
                  refine l_nil (aT ?_)
                  refine w_cond_d rfl (fun hge2 => ?_) (fun hge2 => ?_)
                  · skip
                    obtain ⟨y1, y2, y3, y4⟩ := open_facts hwf (bk := bk) (rls_get henty) oky (by omega)
                    refine wR ?_
                    apply lL (by kernel_rfl) rfl
                    apply ld_call (ct_open_ hE (a := b) henty hoy.2.2.2.1 hoy5 (by omega)) rfl (hE.f (by kernel_rfl))
                    · ((repeat constructor); done)
                    rintro _ _ ⟨rfl, rfl⟩
                    simp only [List.cons_append, List.nil_append]
                    refine l_nil (a_block (aT (wR ?_)))
                    refine lY (y_add rfl rfl (by omega) (by omega)) rfl ?_
                    refine lY (yM rfl) rfl ?_
                    refine l_nil ?_
                    have sx : strm (rls Es) bk (a ++ [(ix + 1, kx)]) = strm (rls Es) bk (a ++ [(ix + 1, kx)]) := rfl
                    have sy : strm (rls Es) bk (dropG b (iy + 1) ky 1 ++ refsG bk eny.r) = strm (rls Es) bk (b ++ [(iy + 1, ky)]) := y1
                    refine wa_eq 18 (.int .i64 ((st' + 1 : Nat) : Int)) rfl (int_eq (by omega)) ?_
                    refine a_round (ι := CmG) (j := ⟨st' + 1, sum, a ++ [(ix + 1, kx)], dropG b (iy + 1) ky 1 ++ refsG bk eny.r, mx, my, q1, q2, d1, d2, m0⟩) ?_ ?_ ?_ ?_
                    · refine ⟨by show st' + 1 ≤ 16777216; omega, ⟨w, by rw [sx]; exact hw1, by rw [sy]; exact hw2, hw3⟩, okx, y2, by show st' + 1 + (cost _ (a ++ [(ix + 1, kx)]) + cost _ (dropG b (iy + 1) ky 1 ++ refsG bk eny.r)) ≤ C0; omega, by show (a ++ [(ix + 1, kx)]).length ≤ 4194304 + 2 * (st' + 1); omega, by show (dropG b (iy + 1) ky 1 ++ refsG bk eny.r).length ≤ 4194304 + 2 * (st' + 1); omega, fun h => ?_⟩
                      obtain ⟨u, u1, u2, u3, u4, u5, u6, u7⟩ := hmk (by have : 1025 ≤ st' + 1 := h; omega)
                      exact ⟨u, by rw [sx]; exact u1, by rw [sy]; exact u2, u3, u4, u5, by show mx.length ≤ 4194304 + 2 * (st' + 1); omega, by show my.length ≤ 4194304 + 2 * (st' + 1); omega⟩
                    · show 16777216 - (st' + 1) < 16777216 - st'; omega
                    · exact ⟨rfl, rfl, rfl, rfl, rfl, rfl, trivial⟩
                    · (apply ent; (repeat constructor); done)
                  · exact absurd hge2 (by omega)
  · skip
    refine w_exit (a_then_exit (a_then_exit (a_block_exit (aT (w_seq (wR ?_))))))
    refine lY (yM rfl) rfl ?_
    refine lY (yA rfl) rfl ?_
    refine l_nil (aT (w_ret ?_))
    apply a_ret
    · rfl
    · (apply Rs.tmp rfl; exact Rs.nil)
    · refine ⟨sum, rfl, by omega, fun _ => by omega, rfl⟩
    · (apply ent; (repeat constructor); done)
end Go.Proofs.YtekhbjlplfbdkaaDoor
namespace Go.Proofs.YtekhbjlplfbdkaaDoor
open Go Go.RowKit Sl Eg
set_option maxRecDepth 10000
variable {E : Env} {Es : List Ent} {pp tb s most : Nat}
def good (L : List Rl) (i : Nat) : Prop := i ≤ L.length ∧ 0 ≤ lvl L i
theorem ct_sizeN (hE : Seat E) {i : Nat} (hi : i ≤ (rls Es).length) : Ct E 39 [.pointer (some ⟨pp, 0, none⟩), .int .i64 (i : Nat)] [cells pp [.pointer (some ⟨s, 0, none⟩), .pointer (some ⟨tb, 0, none⟩)] 78, tabP tb s (rls Es), storeP s most Es] (fun v Q => v = .int .i64 (len (rls Es) i : Nat) ∧ Q = [cells pp [.pointer (some ⟨s, 0, none⟩), .pointer (some ⟨tb, 0, none⟩)] 78, tabP tb s (rls Es), storeP s most Es]) := by
  cases i with
  | zero => exact ct_size0 hE
  | succ i => exact ct_size hE (by rw [rls_length] at hi; omega)
theorem ct_newReader0 (hE : Seat E) {i : Nat} {bk : Bool} : Ct E 38 [.pointer (some ⟨pp, 0, none⟩), .int .i64 (i : Nat), .int .i64 ((0 : Nat) : Int), .bool bk] [cells pp [.pointer (some ⟨s, 0, none⟩), .pointer (some ⟨tb, 0, none⟩)] 78, tabP tb s (rls Es), storeP s most Es] (NrPost pp s tb most Es bk []) := by
  refine fn_enter (hE.fn Tryd.func38) rfl rfl rfl (fun R => ?_)
  simp only [argsL, List.cons_append, List.nil_append]
  refine w_seq (wR ?_)
  apply lL (by kernel_rfl) rfl
  refine ld_alloc (hE.t rfl) (fun b8 => ?_)
  refine l_nil (aT (w_seq (wR ?_)))
  refine lY (yM rfl) rfl ?_
  refine lY (yM rfl) rfl ?_
  apply lY
  · (first | exact y_build (hE.t rfl) rfl rfl | exact y_buildA (hE.t rfl) rfl rfl)
  · rfl
  apply lL (by kernel_rfl) rfl
  refine ld_alloc (hE.t rfl) (fun b9 => ?_)
  apply lL (by kernel_rfl) rfl
  (first | (apply ld_store rfl rfl (hE.t rfl) rfl; (focus ((repeat constructor); done)); (focus rfl); (focus (exact Nat.le_of_ble_eq_true rfl))) | (apply ld_store_sl rfl rfl (hE.t rfl) rfl; (focus ((repeat constructor); done)); (focus rfl); (focus (first | omega | (simp only [cellsL, length_setMany, List.length_cons, List.length_nil]; omega)))))
  refine l_nil (aT (w_seq (w_seq (wR ?_))))
  refine lY (yM rfl) rfl ?_
  refine lY (y_gt rfl rfl) rfl ?_
  refine l_nil (aT ?_)
  refine w_cond_f rfl ?_
  refine w_skip (aT (w_seq (w_block ?_)))
  refine w_rounds 1 ?_
  refine r_succ ?_
  refine w_seq (w_seq (wR ?_))
  refine lY (yM rfl) rfl ?_
  refine lY (y_gt rfl rfl) rfl ?_
  refine lY (yM rfl) rfl ?_
  skip
  refine l_off rfl rfl rfl rfl (l_off rfl rfl rfl rfl (l_off rfl rfl rfl rfl (l_off rfl rfl rfl rfl (l_off rfl rfl rfl rfl ?_))))
  apply lY
  · (first | exact y_pick_t rfl rfl | exact y_pick_f rfl rfl)
  · rfl
  refine l_nil (aT ?_)
  refine w_cond_f rfl ?_
  refine w_exit (a_then_exit (a_then_exit (a_block_exit (aT (w_seq (wR ?_))))))
  apply lY
  · (apply y_load_agg rfl (hE.t rfl) rfl; (repeat (first | rfl | assumption | constructor)); done)
  · rfl
  apply lL (by kernel_rfl) rfl
  (first | (apply ld_store rfl rfl (hE.t rfl) rfl; (focus ((repeat constructor); done)); (focus rfl); (focus (exact Nat.le_of_ble_eq_true rfl))) | (apply ld_store_sl rfl rfl (hE.t rfl) rfl; (focus ((repeat constructor); done)); (focus rfl); (focus (first | omega | (simp only [cellsL, length_setMany, List.length_cons, List.length_nil]; omega)))))
  refine l_nil (aT (w_ret ?_))
  apply a_ret
  · rfl
  · ((apply Rs.cell rfl (hE.t rfl) rfl; (focus ((repeat (first | rfl | assumption | constructor)); done))); exact Rs.nil)
  · exact ⟨none, 0, [], rfl, rfl, fun g h => by simp at h, by simp, rfl⟩
  · apply ent_trans (ent_nil (t := 138) (sz := 2))
    (apply ent; (repeat constructor); done)
theorem ct_newReaderN (hE : Seat E) {i n : Nat} {bk : Bool} (hg : good (rls Es) i) (hn : n ≤ len (rls Es) i) : Ct E 38 [.pointer (some ⟨pp, 0, none⟩), .int .i64 (i : Nat), .int .i64 (n : Nat), .bool bk] [cells pp [.pointer (some ⟨s, 0, none⟩), .pointer (some ⟨tb, 0, none⟩)] 78, tabP tb s (rls Es), storeP s most Es] (NrPost pp s tb most Es bk ((tx (rls Es) bk i).drop (len (rls Es) i - n))) := by
  cases n with
  | zero =>
    have e : (tx (rls Es) bk i).drop (len (rls Es) i - 0) = [] := List.drop_eq_nil_of_le (by rw [tx_length]; omega)
    rw [e]
    exact ct_newReader0 hE
  | succ n =>
    cases i with
    | zero => rw [len_zero] at hn; omega
    | succ i => exact ct_newReader hE (by have := hg.1; rw [rls_length] at this; omega) (by omega) hn hg.2
theorem ct_TopN (hE : Seat E) (hB : Base E.w0) {i : Nat} (hg : good (rls Es) i) : Ct E 46 [.pointer (some ⟨pp, 0, none⟩), .int .i64 (i : Nat)] [cells pp [.pointer (some ⟨s, 0, none⟩), .pointer (some ⟨tb, 0, none⟩)] 78, tabP tb s (rls Es), storeP s most Es] (fun v Q => v = .tuple #[.int .i64 (lvl (rls Es) i), .nilIface] ∧ Q = [cells pp [.pointer (some ⟨s, 0, none⟩), .pointer (some ⟨tb, 0, none⟩)] 78, tabP tb s (rls Es), storeP s most Es]) := by
  cases i with
  | zero => exact ct_Top0 hE
  | succ i => exact ct_Top hE hB (by have := hg.1; rw [rls_length] at this; omega) hg.2
theorem ct_check (hE : Seat E) (hB : Base E.w0) {i j : Nat} (hi : good (rls Es) i) (hj : good (rls Es) j) : Ct E 36 [.pointer (some ⟨pp, 0, none⟩), .int .i64 (i : Nat), .int .i64 (j : Nat)] [cells pp [.pointer (some ⟨s, 0, none⟩), .pointer (some ⟨tb, 0, none⟩)] 78, tabP tb s (rls Es), storeP s most Es] (fun v Q => v = .nilIface ∧ Q = [cells pp [.pointer (some ⟨s, 0, none⟩), .pointer (some ⟨tb, 0, none⟩)] 78, tabP tb s (rls Es), storeP s most Es]) := by
  have hi1 := hi.1
  have hj1 := hj.1
  rw [rls_length] at hi1 hj1
  refine fn_enter (hE.fn Tryd.func36) rfl rfl rfl (fun R => ?_)
  simp only [argsL, List.cons_append, List.nil_append]
  refine w_seq (wR ?_)
  refine lY (yA rfl) rfl ?_
  refine l_nil (aT (w_seq (w_seq (wR ?_))))
  refine lY (yM rfl) rfl ?_
  apply lL (by kernel_rfl) rfl
  apply ld_call (ct_Store hE) rfl (hE.f (by kernel_rfl))
  · ((repeat constructor); done)
  rintro _ _ ⟨rfl, rfl⟩
  simp only [List.cons_append, List.nil_append]
  apply lY
  · (first | exact y_eq_ptr rfl (hE.t rfl) | exact y_eq_nil rfl (hE.t rfl))
  · rfl
  refine l_nil (aT ?_)
  refine w_cond_f rfl ?_
  refine w_skip (aT (w_seq (w_seq (wR ?_))))
  refine lY (yM rfl) rfl ?_
  refine lY (yM rfl) rfl ?_
  apply lY
  · (first | exact y_build (hE.t rfl) rfl rfl | exact y_buildA (hE.t rfl) rfl rfl)
  · rfl
  refine lY (yM rfl) rfl ?_
  refine l_nil (aT (w_block ?_))
  refine w_rounds 3 ?_
  refine r_succ ?_
  refine w_seq (wR ?_)
  refine lY (y_lt rfl rfl) rfl ?_
  refine l_nil (aT (w_seq ?_))
  refine w_cond_t rfl ?_
  refine w_skip (aT (w_seq (w_block (w_seq (wR ?_)))))
  refine lY (y_idx rfl rfl (hE.t rfl) (hE.t rfl) rfl (by omega) (by omega) rfl) rfl ?_
  refine lY (yA rfl) rfl ?_
  refine l_nil (aT (w_seq (wR ?_)))
  refine lY (yM rfl) rfl ?_
  refine lY (y_lt rfl rfl) rfl ?_
  refine lY (yM rfl) rfl ?_
  refine l_split 25 rfl (fun h1 => ?_) (fun h1 => ?_)
  · exact absurd h1 (by omega)
  skip
  refine l_on rfl rfl ?_
  refine lY (yM rfl) rfl ?_
  refine l_on rfl rfl ?_
  refine lY (yM rfl) rfl ?_
  refine l_on rfl rfl ?_
  apply lL (by kernel_rfl) rfl
  apply ld_call (ct_Store hE) rfl (hE.f (by kernel_rfl))
  · ((repeat constructor); done)
  rintro _ _ ⟨rfl, rfl⟩
  simp only [List.cons_append, List.nil_append]
  refine l_on rfl rfl ?_
  apply lL (by kernel_rfl) rfl
  apply ld_call (ct_len hE) rfl (hE.f (by kernel_rfl))
  · ((repeat constructor); done)
  rintro _ _ ⟨rfl, rfl⟩
  simp only [List.cons_append, List.nil_append]
  refine l_on rfl rfl ?_
  refine lY (y_gt rfl rfl) rfl ?_
  apply lY
  · (first | exact y_pick_t rfl rfl | exact y_pick_f rfl rfl)
  · rfl
  refine l_nil (aT ?_)
  refine w_cond_d rfl (fun h2 => ?_) (fun h2 => ?_)
  · exact absurd h2 (by omega)
  skip
  refine w_skip (a_block (aT (wR ?_)))
  refine lY (y_add rfl rfl (by omega) (by omega)) rfl ?_
  refine lY (yM rfl) rfl ?_
  refine l_nil ?_
  refine a_rd ?_
  refine r_succ ?_
  refine w_seq (wR ?_)
  refine lY (y_lt rfl rfl) rfl ?_
  refine l_nil (aT (w_seq ?_))
  refine w_cond_t rfl ?_
  refine w_skip (aT (w_seq (w_block (w_seq (wR ?_)))))
  refine lY (y_idx rfl rfl (hE.t rfl) (hE.t rfl) rfl (by omega) (by omega) rfl) rfl ?_
  refine lY (yA rfl) rfl ?_
  refine l_nil (aT (w_seq (wR ?_)))
  refine lY (yM rfl) rfl ?_
  refine lY (y_lt rfl rfl) rfl ?_
  refine lY (yM rfl) rfl ?_
  refine l_split 25 rfl (fun h1 => ?_) (fun h1 => ?_)
  · exact absurd h1 (by omega)
  skip
  refine l_on rfl rfl ?_
  refine lY (yM rfl) rfl ?_
  refine l_on rfl rfl ?_
  refine lY (yM rfl) rfl ?_
  refine l_on rfl rfl ?_
  apply lL (by kernel_rfl) rfl
  apply ld_call (ct_Store hE) rfl (hE.f (by kernel_rfl))
  · ((repeat constructor); done)
  rintro _ _ ⟨rfl, rfl⟩
  simp only [List.cons_append, List.nil_append]
  refine l_on rfl rfl ?_
  apply lL (by kernel_rfl) rfl
  apply ld_call (ct_len hE) rfl (hE.f (by kernel_rfl))
  · ((repeat constructor); done)
  rintro _ _ ⟨rfl, rfl⟩
  simp only [List.cons_append, List.nil_append]
  refine l_on rfl rfl ?_
  refine lY (y_gt rfl rfl) rfl ?_
  apply lY
  · (first | exact y_pick_t rfl rfl | exact y_pick_f rfl rfl)
  · rfl
  refine l_nil (aT ?_)
  refine w_cond_d rfl (fun h2 => ?_) (fun h2 => ?_)
  · exact absurd h2 (by omega)
  skip
  refine w_skip (a_block (aT (wR ?_)))
  refine lY (y_add rfl rfl (by omega) (by omega)) rfl ?_
  refine lY (yM rfl) rfl ?_
  refine l_nil ?_
  refine a_rd ?_
  refine r_succ ?_
  refine w_seq (wR ?_)
  refine lY (y_lt rfl rfl) rfl ?_
  refine l_nil (aT (w_seq ?_))
  refine w_cond_f rfl ?_
  refine w_exit (a_then_exit (a_then_exit (a_block_exit (aT (w_seq (w_seq (wR ?_)))))))
  refine lY (yM rfl) rfl ?_
  refine lY (yM rfl) rfl ?_
  apply lY
  · (first | exact y_build (hE.t rfl) rfl rfl | exact y_buildA (hE.t rfl) rfl rfl)
  · rfl
  refine lY (yM rfl) rfl ?_
  refine l_nil (aT (w_block ?_))
  refine w_rounds 3 ?_
  refine r_succ ?_
  refine w_seq (wR ?_)
  refine lY (y_lt rfl rfl) rfl ?_
  refine l_nil (aT (w_seq ?_))
  refine w_cond_t rfl ?_
  refine w_skip (aT (w_seq (w_block (w_seq (wR ?_)))))
  refine lY (y_idx rfl rfl (hE.t rfl) (hE.t rfl) rfl (by omega) (by omega) rfl) rfl ?_
  refine lY (yA rfl) rfl ?_
  refine l_nil (aT (w_seq (wR ?_)))
  refine lY (yM rfl) rfl ?_
  refine lY (yM rfl) rfl ?_
  apply lL (by kernel_rfl) rfl
  apply ld_call (ct_TopN hE hB hi) rfl (hE.f (by kernel_rfl))
  · ((repeat constructor); done)
  rintro _ _ ⟨rfl, rfl⟩
  simp only [List.cons_append, List.nil_append]
  refine lY (yM rfl) rfl ?_
  refine lY (y_extract rfl rfl) rfl ?_
  refine lY (y_extract rfl rfl) rfl ?_
  refine lY (yA rfl) rfl ?_
  refine lY (yA rfl) rfl ?_
  refine l_nil (aT (w_seq (wR ?_)))
  refine lY (yM rfl) rfl ?_
  apply lY
  · (first | exact y_ok_ne rfl (hE.t rfl) | exact y_err_ne rfl (hE.t rfl))
  · rfl
  refine l_nil (aT ?_)
  refine w_cond_f rfl ?_
  refine w_skip (a_block (aT (wR ?_)))
  refine lY (y_add rfl rfl (by omega) (by omega)) rfl ?_
  refine lY (yM rfl) rfl ?_
  refine l_nil ?_
  refine a_rd ?_
  refine r_succ ?_
  refine w_seq (wR ?_)
  refine lY (y_lt rfl rfl) rfl ?_
  refine l_nil (aT (w_seq ?_))
  refine w_cond_t rfl ?_
  refine w_skip (aT (w_seq (w_block (w_seq (wR ?_)))))
  refine lY (y_idx rfl rfl (hE.t rfl) (hE.t rfl) rfl (by omega) (by omega) rfl) rfl ?_
  refine lY (yA rfl) rfl ?_
  refine l_nil (aT (w_seq (wR ?_)))
  refine lY (yM rfl) rfl ?_
  refine lY (yM rfl) rfl ?_
  apply lL (by kernel_rfl) rfl
  apply ld_call (ct_TopN hE hB hj) rfl (hE.f (by kernel_rfl))
  · ((repeat constructor); done)
  rintro _ _ ⟨rfl, rfl⟩
  simp only [List.cons_append, List.nil_append]
  refine lY (yM rfl) rfl ?_
  refine lY (y_extract rfl rfl) rfl ?_
  refine lY (y_extract rfl rfl) rfl ?_
  refine lY (yA rfl) rfl ?_
  refine lY (yA rfl) rfl ?_
  refine l_nil (aT (w_seq (wR ?_)))
  refine lY (yM rfl) rfl ?_
  apply lY
  · (first | exact y_ok_ne rfl (hE.t rfl) | exact y_err_ne rfl (hE.t rfl))
  · rfl
  refine l_nil (aT ?_)
  refine w_cond_f rfl ?_
  refine w_skip (a_block (aT (wR ?_)))
  refine lY (y_add rfl rfl (by omega) (by omega)) rfl ?_
  refine lY (yM rfl) rfl ?_
  refine l_nil ?_
  refine a_rd ?_
  refine r_succ ?_
  refine w_seq (wR ?_)
  refine lY (y_lt rfl rfl) rfl ?_
  refine l_nil (aT (w_seq ?_))
  refine w_cond_f rfl ?_
  refine w_exit (a_then_exit (a_then_exit (a_block_exit (aT (w_seq (wR ?_))))))
  refine lY (yA rfl) rfl ?_
  refine l_nil (aT (w_ret ?_))
  apply a_ret
  · rfl
  · (apply Rs.tmp rfl; exact Rs.nil)
  · exact ⟨rfl, rfl⟩
  · (apply ent; (repeat constructor); done)
end Go.Proofs.YtekhbjlplfbdkaaDoor
