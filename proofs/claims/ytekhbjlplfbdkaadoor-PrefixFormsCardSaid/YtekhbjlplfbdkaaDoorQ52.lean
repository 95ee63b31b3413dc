/- evergreenref12: One. -/
import Derived.Test.YtekhbjlplfbdkaaDoorQ13
import Derived.Test.YtekhbjlplfbdkaaDoorQ51
set_option linter.unusedVariables false
set_option linter.unusedSimpArgs false
namespace Go.Proofs.YtekhbjlplfbdkaaDoor
open Go Go.RowKit Sl Eg
set_option maxRecDepth 10000
variable {E : Env} {L : List Rl}
theorem addR_wf {L : List Rl} {r : Rl} (hw : Wf L) (h : r ∉ L → Wf (L ++ [r])) : Wf (addR L r).1 := by
  unfold addR
  split
  · rename_i h0; exact h (idOf_zero.1 h0)
  · exact hw
theorem oneR_wf {L : List Rl} {res : List Nat} (hw : Wf L) (h : ∀ x ∈ res, x ≤ L.length) (hL : L.length < 1000) (m : Mk) : Wf (oneR L res m).1 := by
  have hm : L.length < maxRules := by unfold maxRules; omega
  have hx : ∀ i : Nat, (res[i]?).getD 0 ≤ L.length := fun i => by
    cases e : res[i]? with
    | none => simp
    | some x => exact h x (List.mem_of_getElem? e)
  have hl := hx (pick m.left res.length)
  have hr := hx (pick m.right res.length)
  unfold oneR
  simp only
  split
  · exact addR_wf hw fun hn => hw.letter hn hm
  · split
    · split
      · exact hw
      · split
        · exact hw
        · rename_i h1 h2
          simp only [not_or] at h1
          have hp := hw.pos _ (by omega) hl
          refine addR_wf hw fun hn => hw.power hn hm (by omega) hl (by omega) ?_
          have h3 : m.times.toNat ≤ maxLength / len L ((res[pick m.left res.length]?).getD 0) := by omega
          rw [Nat.mul_comm]
          exact (Nat.le_div_iff_mul_le hp).1 h3
    · split
      · exact hw
      · split
        · exact hw
        · split
          · exact hw
          · refine addR_wf hw fun hn => hw.pair hn hm (by omega) hl (by omega) hr (by omega)
theorem bld_wf {ms : List Mk} (hm : ms.length ≤ 900) : ∀ k, k ≤ ms.length → Wf (bld ms k).1
  | 0, _ => wf_nil
  | k + 1, h => by
    have e : ms[k]? = some (ms[k]'(by omega)) := List.getElem?_eq_getElem (by omega)
    rw [bld_succ e]
    have h1 := bld_le (ms := ms) k (by omega)
    exact oneR_wf (bld_wf hm k (by omega)) h1.1 (by omega) _
theorem ct_rOne (hE : Seat E) (hw : Wf L) {res : List Nat} {m : Mk} (hres : ∀ x ∈ res, x ≤ L.length) (h0 : 0 < res.length) (hrl : res.length ≤ 100) (hL : L.length ≤ 100) {pr pl : Option Addr} {cr cl g c : Nat} (ht : m.times ≤ 9223372036854775807) :
    Ct E 33 [.agg #[.slice pr L.length cr, .slice pl L.length cl], .agg #[.int .i64 m.kind, .int .u8 (m.letter.toNat : Nat), .int .i64 m.left, .int .i64 m.right, .int .i64 m.times], .slice (some ⟨g, 0, none⟩) res.length c] [sl pr cr 42 5 L.length (rusC L), sl pl cl 3 1 L.length (lnC L L.length), sl (some ⟨g, 0, none⟩) c 38 1 res.length (idC res)]
      (fun v Q => ∃ p c1 p' c', v = .tuple #[.agg #[.slice p (oneR L res m).1.length c1, .slice p' (oneR L res m).1.length c'], .int .i64 ((oneR L res m).2 : Nat)] ∧ Q = [sl p c1 42 5 (oneR L res m).1.length (rusC (oneR L res m).1), sl p' c' 3 1 (oneR L res m).1.length (lnC (oneR L res m).1 (oneR L res m).1.length), sl (some ⟨g, 0, none⟩) c 38 1 res.length (idC res)]) := by
  have hpl := pick_lt m.left h0
  have hpr := pick_lt m.right h0
  obtain ⟨l, hl⟩ : ∃ l, res[pick m.left res.length]? = some l := ⟨_, List.getElem?_eq_getElem hpl⟩
  obtain ⟨r, hr⟩ : ∃ r, res[pick m.right res.length]? = some r := ⟨_, List.getElem?_eq_getElem hpr⟩
  have hll := hres l (List.mem_of_getElem? hl)
  have hrr := hres r (List.mem_of_getElem? hr)
  have hsl := hw.short l
  have hsr := hw.short r
  unfold maxLength at hsl hsr
  have f0 := idC_get hl (((pick m.left res.length : Nat) : Int)).toNat (by omega)
  have f1 := idC_get hr (((pick m.right res.length : Nat) : Int)).toNat (by omega)
  have hpk := pick_lt m.kind (many := 4) (by decide)
  have eo : oneR L res m = (if pick m.kind 4 = 0 then addR L (.letter m.letter) else if pick m.kind 4 = 3 then if l = 0 ∨ m.times ≤ 0 ∨ ((maxLength / len L l : Nat) : Int) < m.times then (L, 0) else if m.times = 1 then (L, l) else addR L (.power l m.times.toNat) else if l = 0 then (L, r) else if r = 0 then (L, l) else if maxLength < len L l + len L r then (L, 0) else addR L (.pair l r)) := by
    unfold oneR
    simp only [hl, hr, Option.getD_some]
  refine fn_enter (hE.fn Tryd.func33) rfl rfl rfl (fun R => ?_)
  simp only [argsL, List.cons_append, List.nil_append]
  refine w_seq (wR ?_)
  apply lL (by kernel_rfl) rfl
  refine ld_box rfl (fun b3 => ?_)
  apply lL (by kernel_rfl) rfl
  refine ld_box rfl (fun b4 => ?_)
  apply lL (by kernel_rfl) rfl
  refine ld_alloc (hE.t rfl) (fun b6 => ?_)
  refine lY (yA rfl) rfl ?_
  refine l_nil (aT (w_seq (wR ?_)))
  refine lY (yM rfl) rfl ?_
  refine lY (yF rfl (hE.t rfl) rfl) rfl ?_
  apply lY
  · (apply y_load rfl (hE.t rfl) rfl; (repeat (first | rfl | assumption | constructor)); done)
  · rfl
  refine lY (yM rfl) rfl ?_
  refine lY (y_len_slice rfl (hE.t rfl)) rfl ?_
  apply lL (by kernel_rfl) rfl
  apply ld_call (ct_Pick (n := m.left) (m := res.length) hE h0 (by omega)) rfl (hE.f (by kernel_rfl))
  · ((repeat constructor); done)
  rintro _ _ ⟨rfl, rfl⟩
  simp only [List.cons_append, List.nil_append]
  apply lY
  · (first | exact y_indexAddr1 rfl rfl (hE.t rfl) (by omega) (by omega) | exact y_indexAddr rfl rfl (hE.t rfl) (by omega) (by omega))
  · rfl
  apply lY
  · (apply y_load rfl (hE.t rfl) rfl; (repeat (first | rfl | assumption | constructor)); done)
  · rfl
  refine lY (yA rfl) rfl ?_
  refine l_nil (aT (w_seq (wR ?_)))
  refine lY (yM rfl) rfl ?_
  refine lY (yF rfl (hE.t rfl) rfl) rfl ?_
  apply lY
  · (apply y_load rfl (hE.t rfl) rfl; (repeat (first | rfl | assumption | constructor)); done)
  · rfl
  refine lY (yM rfl) rfl ?_
  refine lY (y_len_slice rfl (hE.t rfl)) rfl ?_
  apply lL (by kernel_rfl) rfl
  apply ld_call (ct_Pick (n := m.right) (m := res.length) hE h0 (by omega)) rfl (hE.f (by kernel_rfl))
  · ((repeat constructor); done)
  rintro _ _ ⟨rfl, rfl⟩
  simp only [List.cons_append, List.nil_append]
  apply lY
  · (first | exact y_indexAddr1 rfl rfl (hE.t rfl) (by omega) (by omega) | exact y_indexAddr rfl rfl (hE.t rfl) (by omega) (by omega))
  · rfl
  apply lY
  · (apply y_load rfl (hE.t rfl) rfl; (repeat (first | rfl | assumption | constructor)); done)
  · rfl
  refine lY (yA rfl) rfl ?_
  refine l_nil (aT (w_seq (w_seq (wR ?_))))
  refine lY (yF rfl (hE.t rfl) rfl) rfl ?_
  apply lY
  · (apply y_load rfl (hE.t rfl) rfl; (repeat (first | rfl | assumption | constructor)); done)
  · rfl
  apply lL (by kernel_rfl) rfl
  apply ld_call (ct_Pick (n := m.kind) (m := 4) hE (by decide) (by decide)) rfl (hE.f (by kernel_rfl))
  · ((repeat constructor); done)
  rintro _ _ ⟨rfl, rfl⟩
  simp only [List.cons_append, List.nil_append]
  refine l_nil (aT (w_block (w_seq (wR ?_))))
  refine lY (y_eq rfl rfl) rfl ?_
  refine lY (yA rfl) rfl ?_
  refine l_nil (aT ?_)
  refine w_cond_d rfl (fun k0 => ?_) (fun k0 => ?_)
  · skip
    rw [if_pos (by omega)] at eo
    have hln : len (L ++ [.letter m.letter]) (L.length + 1) = 1 := by unfold len; rw [txt_snoc_letter]; rfl
    refine w_seq (wR ?_)
    apply lY
    · (apply y_load_agg rfl (hE.t rfl) rfl; (repeat (first | rfl | assumption | constructor)); done)
    · rfl
    refine lY (yF rfl (hE.t rfl) rfl) rfl ?_
    apply lY
    · (apply y_load rfl (hE.t rfl) rfl; (repeat (first | rfl | assumption | constructor)); done)
    · rfl
    apply lY
    · (first | exact y_build (hE.t rfl) rfl rfl | exact y_buildA (hE.t rfl) rfl rfl)
    · rfl
    apply lL (by kernel_rfl) rfl
    apply ld_call (ct_rAddR (r := .letter m.letter) (ln := 1) hE hw (by omega) hln) rfl (hE.f (by kernel_rfl))
    · ((repeat constructor); done)
    rintro _ _ ⟨p1, c1, p2, c2, rfl, rfl⟩
    simp only [List.cons_append, List.nil_append]
    rw [eo]
    refine lY (y_extract rfl rfl) rfl ?_
    refine lY (y_extract rfl rfl) rfl ?_
    apply lL (by kernel_rfl) rfl
    (first | (apply ld_store rfl rfl (hE.t rfl) rfl; (focus ((repeat constructor); done)); (focus rfl); (focus (exact Nat.le_of_ble_eq_true rfl))) | (apply ld_store_sl rfl rfl (hE.t rfl) rfl; (focus ((repeat constructor); done)); (focus rfl); (focus (first | omega | (simp only [cellsL, length_setMany, List.length_cons, List.length_nil]; omega)))))
    refine lY (yA rfl) rfl ?_
    refine l_nil (aT (w_ret (a_block_ret (a_then_ret ?_))))
    apply a_ret
    · rfl
    · ((apply Rs.cell rfl (hE.t rfl) rfl; (focus ((repeat (first | rfl | assumption | constructor)); done))); apply Rs.tmp rfl; exact Rs.nil)
    · exact ⟨_, _, _, _, rfl, rfl⟩
    · (apply ent; (repeat constructor); done)
  · skip
    rw [if_neg (by omega)] at eo
    refine w_seq (wR ?_)
    refine lY (y_eq rfl rfl) rfl ?_
    refine lY (yA rfl) rfl ?_
    refine l_nil (aT ?_)
    refine w_cond_d rfl (fun k3 => ?_) (fun k3 => ?_)
    · skip
      rw [if_pos (by omega)] at eo
      refine w_seq (wR ?_)
      apply lY
      · (apply y_load_agg rfl (hE.t rfl) rfl; (repeat (first | rfl | assumption | constructor)); done)
      · rfl
      refine lY (yM rfl) rfl ?_
      apply lL (by kernel_rfl) rfl
      apply ld_call (ct_rLength hE hll (by omega)) rfl (hE.f (by kernel_rfl))
      · ((repeat constructor); done)
      rintro _ _ ⟨rfl, rfl⟩
      simp only [List.cons_append, List.nil_append]
      refine lY (yA rfl) rfl ?_
      refine l_nil (aT (w_seq (w_seq (w_draws (by kernel_rfl) ?_))))
      refine lY (yM rfl) rfl ?_
      refine lY (y_eq rfl rfl) rfl ?_
      refine lY (yM rfl) rfl ?_
      have ml : maxLength = 1152921504606846976 := rfl
      refine l_split 46 rfl (fun z1 => ?_) (fun z1 => ?_)
      · skip
        rw [if_pos (by left; omega)] at eo
        refine l_off rfl rfl rfl rfl (l_off rfl rfl rfl rfl (l_off rfl rfl rfl rfl ?_))
        apply lY
        · (first | exact y_pick_t rfl rfl | exact y_pick_f rfl rfl)
        · rfl
        refine lY (yM rfl) rfl ?_
        skip
        refine l_off rfl rfl rfl rfl (l_off rfl rfl rfl rfl (l_off rfl rfl rfl rfl (l_off rfl rfl rfl rfl (l_off rfl rfl rfl rfl ?_))))
        apply lY
        · (first | exact y_pick_t rfl rfl | exact y_pick_f rfl rfl)
        · rfl
        refine l_nil (aT ?_)
        refine w_cond_t rfl ?_
        refine w_seq (wR ?_)
        apply lY
        · (apply y_load_agg rfl (hE.t rfl) rfl; (repeat (first | rfl | assumption | constructor)); done)
        · rfl
        apply lL (by kernel_rfl) rfl
        (first | (apply ld_store rfl rfl (hE.t rfl) rfl; (focus ((repeat constructor); done)); (focus rfl); (focus (exact Nat.le_of_ble_eq_true rfl))) | (apply ld_store_sl rfl rfl (hE.t rfl) rfl; (focus ((repeat constructor); done)); (focus rfl); (focus (first | omega | (simp only [cellsL, length_setMany, List.length_cons, List.length_nil]; omega)))))
        refine lY (yA rfl) rfl ?_
        refine l_nil (aT (w_ret (a_then_ret (a_block_ret (a_then_ret ?_)))))
        rw [eo]
        skip
        apply a_ret
        · rfl
        · ((apply Rs.cell rfl (hE.t rfl) rfl; (focus ((repeat (first | rfl | assumption | constructor)); done))); apply Rs.tmp rfl; exact Rs.nil)
        · exact ⟨_, _, _, _, rfl, rfl⟩
        · (apply ent; (repeat constructor); done)
      · skip
        have hpos := hw.pos l (by omega) hll
        refine l_on rfl rfl ?_
        refine lY (yF rfl (hE.t rfl) rfl) rfl ?_
        refine l_on rfl rfl ?_
        apply lY
        · (apply y_load rfl (hE.t rfl) rfl; (repeat (first | rfl | assumption | constructor)); done)
        · rfl
        refine l_on rfl rfl ?_
        refine lY (y_le rfl rfl) rfl ?_
        apply lY
        · (first | exact y_pick_t rfl rfl | exact y_pick_f rfl rfl)
        · rfl
        refine lY (yM rfl) rfl ?_
        refine l_split 51 rfl (fun z2 => ?_) (fun z2 => ?_)
        · skip
          rw [if_pos (by right; left; omega)] at eo
          refine l_off rfl rfl rfl rfl (l_off rfl rfl rfl rfl (l_off rfl rfl rfl rfl (l_off rfl rfl rfl rfl (l_off rfl rfl rfl rfl ?_))))
          apply lY
          · (first | exact y_pick_t rfl rfl | exact y_pick_f rfl rfl)
          · rfl
          refine l_nil (aT ?_)
          refine w_cond_t rfl ?_
          refine w_seq (wR ?_)
          apply lY
          · (apply y_load_agg rfl (hE.t rfl) rfl; (repeat (first | rfl | assumption | constructor)); done)
          · rfl
          apply lL (by kernel_rfl) rfl
          (first | (apply ld_store rfl rfl (hE.t rfl) rfl; (focus ((repeat constructor); done)); (focus rfl); (focus (exact Nat.le_of_ble_eq_true rfl))) | (apply ld_store_sl rfl rfl (hE.t rfl) rfl; (focus ((repeat constructor); done)); (focus rfl); (focus (first | omega | (simp only [cellsL, length_setMany, List.length_cons, List.length_nil]; omega)))))
          refine lY (yA rfl) rfl ?_
          refine l_nil (aT (w_ret (a_then_ret (a_block_ret (a_then_ret ?_)))))
          rw [eo]
          skip
          apply a_ret
          · rfl
          · ((apply Rs.cell rfl (hE.t rfl) rfl; (focus ((repeat (first | rfl | assumption | constructor)); done))); apply Rs.tmp rfl; exact Rs.nil)
          · exact ⟨_, _, _, _, rfl, rfl⟩
          · (apply ent; (repeat constructor); done)
        · skip
          obtain ⟨k, hk⟩ : ∃ k : Nat, m.times = k := ⟨m.times.toNat, by omega⟩
          have hd : ((maxLength / len L l : Nat) : Int) = 1152921504606846976 / (len L l : Int) := by rw [Int.natCast_ediv]; rfl
          refine l_on rfl rfl ?_
          refine lY (yF rfl (hE.t rfl) rfl) rfl ?_
          refine l_on rfl rfl ?_
          apply lY
          · (apply y_load rfl (hE.t rfl) rfl; (repeat (first | rfl | assumption | constructor)); done)
          · rfl
          refine l_on rfl rfl ?_
          refine lY (yM rfl) rfl ?_
          refine l_on rfl rfl ?_
          refine lY (y_quo rfl rfl (by omega) (by omega) (by omega)) rfl ?_
          refine l_on rfl rfl ?_
          refine lY (y_gt rfl rfl) rfl ?_
          apply lY
          · (first | exact y_pick_t rfl rfl | exact y_pick_f rfl rfl)
          · rfl
          refine l_nil (aT ?_)
          refine w_cond_d rfl (fun z3 => ?_) (fun z3 => ?_)
          · skip
            rw [if_pos (by right; right; rw [hd]; exact z3)] at eo
            refine w_seq (wR ?_)
            apply lY
            · (apply y_load_agg rfl (hE.t rfl) rfl; (repeat (first | rfl | assumption | constructor)); done)
            · rfl
            apply lL (by kernel_rfl) rfl
            (first | (apply ld_store rfl rfl (hE.t rfl) rfl; (focus ((repeat constructor); done)); (focus rfl); (focus (exact Nat.le_of_ble_eq_true rfl))) | (apply ld_store_sl rfl rfl (hE.t rfl) rfl; (focus ((repeat constructor); done)); (focus rfl); (focus (first | omega | (simp only [cellsL, length_setMany, List.length_cons, List.length_nil]; omega)))))
            refine lY (yA rfl) rfl ?_
            refine l_nil (aT (w_ret (a_then_ret (a_block_ret (a_then_ret ?_)))))
            rw [eo]
            skip
            apply a_ret
            · rfl
            · ((apply Rs.cell rfl (hE.t rfl) rfl; (focus ((repeat (first | rfl | assumption | constructor)); done))); apply Rs.tmp rfl; exact Rs.nil)
            · exact ⟨_, _, _, _, rfl, rfl⟩
            · (apply ent; (repeat constructor); done)
          · skip
            rw [if_neg (by rw [hd]; simp only [not_or]; exact ⟨by omega, by omega, z3⟩)] at eo
            refine w_skip (aT (w_seq (w_seq (wR ?_))))
            refine lY (yF rfl (hE.t rfl) rfl) rfl ?_
            apply lY
            · (apply y_load rfl (hE.t rfl) rfl; (repeat (first | rfl | assumption | constructor)); done)
            · rfl
            refine lY (y_eq rfl rfl) rfl ?_
            refine l_nil (aT ?_)
            refine w_cond_d rfl (fun z4 => ?_) (fun z4 => ?_)
            · skip
              rw [if_pos z4] at eo
              refine w_seq (wR ?_)
              apply lY
              · (apply y_load_agg rfl (hE.t rfl) rfl; (repeat (first | rfl | assumption | constructor)); done)
              · rfl
              refine lY (yM rfl) rfl ?_
              apply lL (by kernel_rfl) rfl
              (first | (apply ld_store rfl rfl (hE.t rfl) rfl; (focus ((repeat constructor); done)); (focus rfl); (focus (exact Nat.le_of_ble_eq_true rfl))) | (apply ld_store_sl rfl rfl (hE.t rfl) rfl; (focus ((repeat constructor); done)); (focus rfl); (focus (first | omega | (simp only [cellsL, length_setMany, List.length_cons, List.length_nil]; omega)))))
              refine lY (yA rfl) rfl ?_
              refine l_nil (aT (w_ret (a_then_ret (a_block_ret (a_then_ret ?_)))))
              rw [eo]
              skip
              apply a_ret
              · rfl
              · ((apply Rs.cell rfl (hE.t rfl) rfl; (focus ((repeat (first | rfl | assumption | constructor)); done))); apply Rs.tmp rfl; exact Rs.nil)
              · exact ⟨_, _, _, _, rfl, rfl⟩
              · (apply ent; (repeat constructor); done)
            · skip
              rw [if_neg z4, show m.times.toNat = k by omega] at eo
              have hk2 : k * len L l ≤ maxLength := by
                refine (Nat.le_div_iff_mul_le hpos).1 ?_
                rw [hk, ← hd] at z3
                omega
              have hm1 : ((len L l : Nat) : Int) * ((k : Nat) : Int) = ((len L l * k : Nat) : Int) := (Int.natCast_mul ..).symm
              rw [Nat.mul_comm] at hk2
              unfold maxLength at hk2
              have b1 : 0 ≤ ((len L l : Nat) : Int) * ((k : Nat) : Int) ∧ ((len L l : Nat) : Int) * ((k : Nat) : Int) ≤ 1152921504606846976 := by rw [hm1]; omega
              have hln : len (L ++ [.power l k]) (L.length + 1) = len L l * k := by unfold len; rw [txt_snoc_power L (by omega) hll (by omega), Eg.rep_length, Nat.mul_comm]
              refine w_skip (aT (w_seq (wR ?_)))
              apply lY
              · (apply y_load_agg rfl (hE.t rfl) rfl; (repeat (first | rfl | assumption | constructor)); done)
              · rfl
              refine lY (yM rfl) rfl ?_
              refine lY (yF rfl (hE.t rfl) rfl) rfl ?_
              apply lY
              · (apply y_load rfl (hE.t rfl) rfl; (repeat (first | rfl | assumption | constructor)); done)
              · rfl
              refine l_eq 67 (.int .i64 ((k : Nat) : Int)) rfl (int_eq hk) ?_
              apply lY
              · (first | exact y_build (hE.t rfl) rfl rfl | exact y_buildA (hE.t rfl) rfl rfl)
              · rfl
              refine lY (yM rfl) rfl ?_
              refine lY (yF rfl (hE.t rfl) rfl) rfl ?_
              apply lY
              · (apply y_load rfl (hE.t rfl) rfl; (repeat (first | rfl | assumption | constructor)); done)
              · rfl
              refine l_eq 71 (.int .i64 ((k : Nat) : Int)) rfl (int_eq hk) ?_
              refine lY (y_mul rfl rfl (by omega) (by omega)) rfl ?_
              refine l_eq 72 (.int .i64 ((len L l * k : Nat) : Int)) rfl (int_eq hm1) ?_
              apply lL (by kernel_rfl) rfl
              apply ld_call (ct_rAddR (r := .power l k) (ln := len L l * k) hE hw (by omega) hln) rfl (hE.f (by kernel_rfl))
              · ((repeat constructor); done)
              rintro _ _ ⟨p1, c1, p2, c2, rfl, rfl⟩
              simp only [List.cons_append, List.nil_append]
              rw [eo]
              refine lY (y_extract rfl rfl) rfl ?_
              refine lY (y_extract rfl rfl) rfl ?_
              apply lL (by kernel_rfl) rfl
              (first | (apply ld_store rfl rfl (hE.t rfl) rfl; (focus ((repeat constructor); done)); (focus rfl); (focus (exact Nat.le_of_ble_eq_true rfl))) | (apply ld_store_sl rfl rfl (hE.t rfl) rfl; (focus ((repeat constructor); done)); (focus rfl); (focus (first | omega | (simp only [cellsL, length_setMany, List.length_cons, List.length_nil]; omega)))))
              refine lY (yA rfl) rfl ?_
              refine l_nil (aT (w_ret (a_block_ret (a_then_ret ?_))))
              apply a_ret
              · rfl
              · ((apply Rs.cell rfl (hE.t rfl) rfl; (focus ((repeat (first | rfl | assumption | constructor)); done))); apply Rs.tmp rfl; exact Rs.nil)
              · exact ⟨_, _, _, _, rfl, rfl⟩
              · (apply ent; (repeat constructor); done)
    · skip
      rw [if_neg (by omega)] at eo
      refine w_skip (a_block (aT (w_seq (w_seq (wR ?_)))))
      refine lY (yM rfl) rfl ?_
      refine lY (y_eq rfl rfl) rfl ?_
      refine l_nil (aT ?_)
      refine w_cond_d rfl (fun z1 => ?_) (fun z1 => ?_)
      · skip
        rw [if_pos (by omega)] at eo
        refine w_seq (wR ?_)
        apply lY
        · (apply y_load_agg rfl (hE.t rfl) rfl; (repeat (first | rfl | assumption | constructor)); done)
        · rfl
        refine lY (yM rfl) rfl ?_
        apply lL (by kernel_rfl) rfl
        (first | (apply ld_store rfl rfl (hE.t rfl) rfl; (focus ((repeat constructor); done)); (focus rfl); (focus (exact Nat.le_of_ble_eq_true rfl))) | (apply ld_store_sl rfl rfl (hE.t rfl) rfl; (focus ((repeat constructor); done)); (focus rfl); (focus (first | omega | (simp only [cellsL, length_setMany, List.length_cons, List.length_nil]; omega)))))
        refine lY (yA rfl) rfl ?_
        refine l_nil (aT (w_ret (a_then_ret ?_)))
        rw [eo]
        skip
        apply a_ret
        · rfl
        · ((apply Rs.cell rfl (hE.t rfl) rfl; (focus ((repeat (first | rfl | assumption | constructor)); done))); apply Rs.tmp rfl; exact Rs.nil)
        · exact ⟨_, _, _, _, rfl, rfl⟩
        · (apply ent; (repeat constructor); done)
      · skip
        rw [if_neg (by omega)] at eo
        refine w_skip (aT (w_seq (w_seq (wR ?_))))
        refine lY (yM rfl) rfl ?_
        refine lY (y_eq rfl rfl) rfl ?_
        refine l_nil (aT ?_)
        refine w_cond_d rfl (fun z2 => ?_) (fun z2 => ?_)
        · skip
          rw [if_pos (by omega)] at eo
          refine w_seq (wR ?_)
          apply lY
          · (apply y_load_agg rfl (hE.t rfl) rfl; (repeat (first | rfl | assumption | constructor)); done)
          · rfl
          refine lY (yM rfl) rfl ?_
          apply lL (by kernel_rfl) rfl
          (first | (apply ld_store rfl rfl (hE.t rfl) rfl; (focus ((repeat constructor); done)); (focus rfl); (focus (exact Nat.le_of_ble_eq_true rfl))) | (apply ld_store_sl rfl rfl (hE.t rfl) rfl; (focus ((repeat constructor); done)); (focus rfl); (focus (first | omega | (simp only [cellsL, length_setMany, List.length_cons, List.length_nil]; omega)))))
          refine lY (yA rfl) rfl ?_
          refine l_nil (aT (w_ret (a_then_ret ?_)))
          rw [eo]
          skip
          apply a_ret
          · rfl
          · ((apply Rs.cell rfl (hE.t rfl) rfl; (focus ((repeat (first | rfl | assumption | constructor)); done))); apply Rs.tmp rfl; exact Rs.nil)
          · exact ⟨_, _, _, _, rfl, rfl⟩
          · (apply ent; (repeat constructor); done)
        · skip
          rw [if_neg (by omega)] at eo
          refine w_skip (aT ?_)
          refine w_seq (w_seq ?_)
          refine w_held ([cells b3 [.slice pr L.length cr, .slice pl L.length cl] 35]) ?_ ?_
          · (apply ent; (repeat constructor); done)
          apply d_take 0 rfl
          · (apply y_load_agg rfl (hE.t rfl) rfl; (repeat (first | rfl | assumption | constructor)); done)
          · with_reducible (repeat (first | exact cB | apply cT | apply cK))
          · kernel_rfl
          · rfl
          apply d_take 1 rfl
          · exact yM rfl
          · with_reducible (repeat (first | exact cB | apply cT | apply cK))
          · kernel_rfl
          · rfl
          apply d_take 3 rfl
          · (apply y_load_agg rfl (hE.t rfl) rfl; (repeat (first | rfl | assumption | constructor)); done)
          · with_reducible (repeat (first | exact cB | apply cT | apply cK))
          · kernel_rfl
          · rfl
          apply d_take 4 rfl
          · exact yM rfl
          · with_reducible (repeat (first | exact cB | apply cT | apply cK))
          · kernel_rfl
          · rfl
          apply d_loud 2 rfl (by kernel_rfl) rfl
          apply ld_call (ct_rLength hE hll (by omega)) rfl (hE.f (by kernel_rfl))
          · ((repeat constructor); done)
          rintro _ _ ⟨rfl, rfl⟩
          simp only [List.cons_append, List.nil_append]
          refine ⟨by (apply ent; (repeat constructor); done), ?_⟩
          apply d_loud 5 rfl (by kernel_rfl) rfl
          apply ld_call (ct_rLength hE hrr (by omega)) rfl (hE.f (by kernel_rfl))
          · ((repeat constructor); done)
          rintro _ _ ⟨rfl, rfl⟩
          simp only [List.cons_append, List.nil_append]
          refine ⟨by (apply ent; (repeat constructor); done), ?_⟩
          apply d_take 6 rfl
          · exact y_sub rfl rfl (by omega) (by omega)
          · with_reducible (repeat (first | exact cB | apply cT | apply cK))
          · kernel_rfl
          · rfl
          apply d_take 7 rfl
          · exact y_gt rfl rfl
          · with_reducible (repeat (first | exact cB | apply cT | apply cK))
          · kernel_rfl
          · rfl
          refine d_nil (by kernel_rfl) ?_
          refine aT ?_
          refine w_cond_d rfl (fun z3 => ?_) (fun z3 => ?_)
          · skip
            rw [if_pos (by unfold maxLength; omega)] at eo
            refine w_seq (wR ?_)
            apply lY
            · (apply y_load_agg rfl (hE.t rfl) rfl; (repeat (first | rfl | assumption | constructor)); done)
            · rfl
            apply lL (by kernel_rfl) rfl
            (first | (apply ld_store rfl rfl (hE.t rfl) rfl; (focus ((repeat constructor); done)); (focus rfl); (focus (exact Nat.le_of_ble_eq_true rfl))) | (apply ld_store_sl rfl rfl (hE.t rfl) rfl; (focus ((repeat constructor); done)); (focus rfl); (focus (first | omega | (simp only [cellsL, length_setMany, List.length_cons, List.length_nil]; omega)))))
            refine lY (yA rfl) rfl ?_
            refine l_nil (aT (w_ret (a_then_ret ?_)))
            rw [eo]
            skip
            apply a_ret
            · rfl
            · ((apply Rs.cell rfl (hE.t rfl) rfl; (focus ((repeat (first | rfl | assumption | constructor)); done))); apply Rs.tmp rfl; exact Rs.nil)
            · exact ⟨_, _, _, _, rfl, rfl⟩
            · (apply ent; (repeat constructor); done)
          · skip
            rw [if_neg (by unfold maxLength; omega)] at eo
            have hln : len (L ++ [.pair l r]) (L.length + 1) = len L l + len L r := by unfold len; rw [txt_snoc_pair L (by omega) hll (by omega) hrr, List.length_append]
            refine w_skip (aT ?_)
            refine w_seq ?_
            refine w_held ([cells b3 [.slice pr L.length cr, .slice pl L.length cl] 35]) ?_ ?_
            · (apply ent; (repeat constructor); done)
            apply d_take 0 rfl
            · (apply y_load_agg rfl (hE.t rfl) rfl; (repeat (first | rfl | assumption | constructor)); done)
            · with_reducible (repeat (first | exact cB | apply cT | apply cK))
            · kernel_rfl
            · rfl
            apply d_take 1 rfl
            · exact yM rfl
            · with_reducible (repeat (first | exact cB | apply cT | apply cK))
            · kernel_rfl
            · rfl
            apply d_take 2 rfl
            · exact yM rfl
            · with_reducible (repeat (first | exact cB | apply cT | apply cK))
            · kernel_rfl
            · rfl
            apply d_take 3 rfl
            · (first | exact y_build (hE.t rfl) rfl rfl | exact y_buildA (hE.t rfl) rfl rfl)
            · with_reducible (repeat (first | exact cB | apply cT | apply cK))
            · kernel_rfl
            · rfl
            apply d_take 4 rfl
            · (apply y_load_agg rfl (hE.t rfl) rfl; (repeat (first | rfl | assumption | constructor)); done)
            · with_reducible (repeat (first | exact cB | apply cT | apply cK))
            · kernel_rfl
            · rfl
            apply d_take 5 rfl
            · exact yM rfl
            · with_reducible (repeat (first | exact cB | apply cT | apply cK))
            · kernel_rfl
            · rfl
            apply d_take 7 rfl
            · (apply y_load_agg rfl (hE.t rfl) rfl; (repeat (first | rfl | assumption | constructor)); done)
            · with_reducible (repeat (first | exact cB | apply cT | apply cK))
            · kernel_rfl
            · rfl
            apply d_take 8 rfl
            · exact yM rfl
            · with_reducible (repeat (first | exact cB | apply cT | apply cK))
            · kernel_rfl
            · rfl
            apply d_loud 6 rfl (by kernel_rfl) rfl
            apply ld_call (ct_rLength hE hll (by omega)) rfl (hE.f (by kernel_rfl))
            · ((repeat constructor); done)
            rintro _ _ ⟨rfl, rfl⟩
            simp only [List.cons_append, List.nil_append]
            refine ⟨by (apply ent; (repeat constructor); done), ?_⟩
            apply d_loud 9 rfl (by kernel_rfl) rfl
            apply ld_call (ct_rLength hE hrr (by omega)) rfl (hE.f (by kernel_rfl))
            · ((repeat constructor); done)
            rintro _ _ ⟨rfl, rfl⟩
            simp only [List.cons_append, List.nil_append]
            refine ⟨by (apply ent; (repeat constructor); done), ?_⟩
            apply d_take 10 rfl
            · exact y_add rfl rfl (by omega) (by omega)
            · with_reducible (repeat (first | exact cB | apply cT | apply cK))
            · kernel_rfl
            · rfl
            apply d_loud 11 rfl (by kernel_rfl) rfl
            apply ld_call (ct_rAddR (r := .pair l r) (ln := len L l + len L r) hE hw (by omega) hln) rfl (hE.f (by kernel_rfl))
            · ((repeat constructor); done)
            rintro _ _ ⟨p1, c1, p2, c2, rfl, rfl⟩
            simp only [List.cons_append, List.nil_append]
            rw [eo]
            refine ⟨by (apply ent; (repeat constructor); done), ?_⟩
            apply d_take 12 rfl
            · exact y_extract rfl rfl
            · with_reducible (repeat (first | exact cB | apply cT | apply cK))
            · kernel_rfl
            · rfl
            apply d_take 13 rfl
            · exact y_extract rfl rfl
            · with_reducible (repeat (first | exact cB | apply cT | apply cK))
            · kernel_rfl
            · rfl
            apply d_loud 14 rfl (by kernel_rfl) rfl
            (first | (apply ld_store rfl rfl (hE.t rfl) rfl; (focus ((repeat constructor); done)); (focus rfl); (focus (exact Nat.le_of_ble_eq_true rfl))) | (apply ld_store_sl rfl rfl (hE.t rfl) rfl; (focus ((repeat constructor); done)); (focus rfl); (focus (first | omega | (simp only [cellsL, length_setMany, List.length_cons, List.length_nil]; omega)))))
            refine ⟨by (apply ent; (repeat constructor); done), ?_⟩
            apply d_take 15 rfl
            · exact yA rfl
            · with_reducible (repeat (first | exact cB | apply cT | apply cK))
            · kernel_rfl
            · rfl
            refine d_nil (by kernel_rfl) ?_
            refine aT (w_ret ?_)
            apply a_ret
            · rfl
            · ((apply Rs.cell rfl (hE.t rfl) rfl; (focus ((repeat (first | rfl | assumption | constructor)); done))); apply Rs.tmp rfl; exact Rs.nil)
            · exact ⟨_, _, _, _, rfl, rfl⟩
            · (apply ent; (repeat constructor); done)
end Go.Proofs.YtekhbjlplfbdkaaDoor
namespace Sl
open Go Go.RowKit
variable {E : Env} {n : Nat} {L : Fr} {S S' : List HP} {ty : TypeId} {pos : String} {af : Array Edge} {d : Option Nat} {gd : Option (Nat × Bool)}
theorem y_load_agg_q {x : Operand} {t : TypeId} {g o p i : Nat} {k : TK} {sz : Nat} {zs vs us : List Value} {q : HP} (h : ev L x = some (.pointer (some ⟨g, p, none⟩))) (ht : E.tab t = some ⟨k, sz, zs⟩) (hk : k.agg = true)
    (hq : ∀ k, q k → RdAt E.w0 g o vs k) (hm : Take q S S') (hv : ∀ j u, us[j]? = some u → vs[i + j]? = some u) (hl : us.length = sz) (hp : p = o + i) : Yl E n L S ⟨d, .load t x, ty, pos, af, gd⟩ (.agg ⟨us⟩) := fun a w g' s => by
  subst hp
  have hr := run_cells (P := E.P) g (o + i) us 0 #[] (fun j u hu => by
    rw [Nat.zero_add]
    have := rd_cell hq (s.take hm) (hv j u hu)
    rwa [← Nat.add_assoc] at this)
  rw [hl] at hr
  simp [execOp, Instr.loadAt, Instr.sureAddr, loadVar, g'.ev h, tab_isAgg ht, hk, tab_size ht, loadCells, hr]
end Sl
namespace Go.Proofs.YtekhbjlplfbdkaaDoor
open Go Go.RowKit Sl Eg
set_option maxRecDepth 10000
variable {E : Env}
def mk5 (m : Mk) : List Value := [.int .i64 m.kind, .int .u8 (m.letter.toNat : Nat), .int .i64 m.left, .int .i64 m.right, .int .i64 m.times]
def mkC (ms : List Mk) : List Value := ms.flatMap mk5
theorem mkC_length (ms : List Mk) : (mkC ms).length = ms.length * 5 := by
  induction ms with
  | nil => rfl
  | cons r L ih => simp only [mkC, List.flatMap_cons, List.length_append, List.length_cons] at ih ⊢; rw [ih]; simp [mk5]; omega
theorem mkC_at {ms : List Mk} {k : Nat} {m : Mk} (h : ms[k]? = some m) : ∀ j u, (mk5 m)[j]? = some u → (mkC ms)[k * 5 + j]? = some u := by
  have hk := (List.getElem?_eq_some_iff.1 h).1
  have e : ms = ms.take k ++ m :: ms.drop (k + 1) := by
    obtain ⟨h1, e1⟩ := List.getElem?_eq_some_iff.1 h
    have e2 : ms.drop k = m :: ms.drop (k + 1) := by rw [List.drop_eq_getElem_cons h1, e1]
    rw [← e2, List.take_append_drop]
  have hl : (mkC (ms.take k)).length = k * 5 := by rw [mkC_length, List.length_take, Nat.min_eq_left (by omega)]
  have e2 : mkC ms = mkC (ms.take k) ++ (mk5 m ++ mkC (ms.drop (k + 1))) := by
    conv => lhs; rw [e]
    simp [mkC]
  intro j u hu
  have hj := (List.getElem?_eq_some_iff.1 hu).1
  rw [e2, ← hl, List.getElem?_append_right (by omega), Nat.add_sub_cancel_left, List.getElem?_append_left hj]
  exact hu
structure BdG where
  k : Nat
  pr : Option Addr
  cr : Nat
  pl : Option Addr
  cl : Nat
  g : Nat
  c : Nat
structure OnG where
  b : Nat
  p : Option Addr
  c : Nat
  p' : Option Addr
  c' : Nat
theorem ct_rBuild (hE : Seat E) {ms : List Mk} {A : Option Addr} {C : Nat} {q : HP} (hq : Rdb E.w0 A (mkC ms) q) (hm : ms.length ≤ 60) (ht : ∀ m ∈ ms, m.times ≤ 9223372036854775807) :
    Ct E 11 [.slice A ms.length C] [q] (fun v Q => ∃ p c p' c' g c'', v = .tuple #[.agg #[.slice p (bld ms ms.length).1.length c, .slice p' (bld ms ms.length).1.length c'], .slice (some ⟨g, 0, none⟩) (ms.length + 1) c''] ∧
      Q = [sl p c 42 5 (bld ms ms.length).1.length (rusC (bld ms ms.length).1), sl p' c' 3 1 (bld ms ms.length).1.length (lnC (bld ms ms.length).1 (bld ms ms.length).1.length), sl (some ⟨g, 0, none⟩) c'' 38 1 (ms.length + 1) (idC (bld ms ms.length).2), q]) := by
  refine fn_enter (hE.fn Tryd.func11) rfl rfl rfl (fun R => ?_)
  simp only [argsL, List.cons_append, List.nil_append]
  refine w_seq (wR ?_)
  apply lL (by kernel_rfl) rfl
  refine ld_alloc (hE.t rfl) (fun b2 => ?_)
  refine lY (yA rfl) rfl ?_
  refine l_nil (aT (w_seq (wR ?_)))
  apply lY
  · (first | exact y_build (hE.t rfl) rfl rfl | exact y_buildA (hE.t rfl) rfl rfl)
  · rfl
  apply lL (by kernel_rfl) rfl
  refine ld_alloc (hE.t rfl) (fun b4 => ?_)
  apply lL (by kernel_rfl) rfl
  (first | (apply ld_store rfl rfl (hE.t rfl) rfl; (focus ((repeat constructor); done)); (focus rfl); (focus (exact Nat.le_of_ble_eq_true rfl))) | (apply ld_store_sl rfl rfl (hE.t rfl) rfl; (focus ((repeat constructor); done)); (focus rfl); (focus (first | omega | (simp only [cellsL, length_setMany, List.length_cons, List.length_nil]; omega)))))
  refine l_nil (aT (w_seq (wR ?_)))
  apply lL (by kernel_rfl) rfl
  refine ld_buildSlice (hE.t rfl) (hE.t rfl) rfl rfl rfl (fun b10 => ?_)
  refine lY (yA rfl) rfl ?_
  refine l_nil (aT (w_seq (w_seq (wR ?_))))
  refine lY (yA rfl) rfl ?_
  refine l_nil (aT (w_block ?_))
  refine w_heap (ent_head (p := cells b10 [.int .i64 0] 38) (p' := sl (some ⟨b10, 0, none⟩) 1 38 1 1 (idC [0])) (by ((repeat constructor); done)) (sl_of_cells rfl (by unfold maxLen; omega))) ?_
  skip
  refine w_loop (fun x : BdG => [(0, .slice A ms.length C), (2, .pointer (some ⟨b2, 0, none⟩)), (4, .pointer (some ⟨b4, 0, none⟩)), (5, .slice (some ⟨x.g, 0, none⟩) (x.k + 1) x.c), (6, .int .i64 (x.k : Nat))]) (fun x => [cells b4 [.slice x.pr (bld ms x.k).1.length x.cr, .slice x.pl (bld ms x.k).1.length x.cl] 35, sl x.pr x.cr 42 5 (bld ms x.k).1.length (rusC (bld ms x.k).1), sl x.pl x.cl 3 1 (bld ms x.k).1.length (lnC (bld ms x.k).1 (bld ms x.k).1.length), sl (some ⟨x.g, 0, none⟩) x.c 38 1 (x.k + 1) (idC (bld ms x.k).2), cells b2 [.slice none 0 0, .slice none 0 0] 35, q, R])
    (fun x => ms.length - x.k) (fun x => x.k ≤ ms.length) ⟨0, none, 0, none, 0, b10, 1⟩ ?_ ?_ ?_ ?_
  · exact Nat.zero_le _
  · exact ⟨rfl, rfl, rfl, rfl, rfl, trivial⟩
  · apply ent_trans (ent_nil (t := 42) (sz := 5))
    apply ent_trans (ent_nil (t := 3) (sz := 1))
    (apply ent; (repeat constructor); done)
  rintro ⟨k, pr, cr, pl, cl, g, c⟩ hk
  simp only at hk ⊢
  have hlen := bld_len (ms := ms) k hk
  have hle := bld_le (ms := ms) k hk
  have hwf := bld_wf (ms := ms) (by omega) k hk
  skip
  refine w_seq (w_seq (wR ?_))
  refine lY (yM rfl) rfl ?_
  refine lY (yM rfl) rfl ?_
  refine lY (y_len_slice rfl (hE.t rfl)) rfl ?_
  refine lY (y_lt rfl rfl) rfl ?_
  refine l_nil (aT ?_)
  refine w_cond_d rfl (fun h1 => ?_) (fun h1 => ?_)
  · skip
    have hkl : k < ms.length := by omega
    obtain ⟨m, hmk⟩ : ∃ m, ms[k]? = some m := ⟨_, List.getElem?_eq_getElem hkl⟩
    have htm := ht m (List.mem_of_getElem? hmk)
    have hbs := bld_succ hmk
    obtain ⟨G, O, rfl, hqq⟩ := hq (by intro e; have := mkC_length ms; rw [e] at this; simp at this; omega)
    generalize bld ms k = bd at *
    obtain ⟨L, res⟩ := bd
    simp only at hlen hle hwf hbs ⊢
    rw [← hlen]
    refine w_skip (aT ?_)
    refine w_seq (w_block ?_)
    refine w_cut (fun x : OnG => [(0, .slice (some ⟨G, O, none⟩) ms.length C), (2, .pointer (some ⟨b2, 0, none⟩)), (4, .pointer (some ⟨b4, 0, none⟩)), (5, .slice (some ⟨g, 0, none⟩) res.length c), (6, .int .i64 (k : Nat)), (7, .pointer (some ⟨x.b, 0, none⟩)), (8, .int .i64 ((oneR L res m).2 : Nat))]) (fun x => [cells x.b [.slice x.p (oneR L res m).1.length x.c, .slice x.p' (oneR L res m).1.length x.c'] 35, cells b4 [.slice pr L.length cr, .slice pl L.length cl] 35, sl x.p x.c 42 5 (oneR L res m).1.length (rusC (oneR L res m).1), sl x.p' x.c' 3 1 (oneR L res m).1.length (lnC (oneR L res m).1 (oneR L res m).1.length), sl (some ⟨g, 0, none⟩) c 38 1 res.length (idC res), cells b2 [.slice none 0 0, .slice none 0 0] 35, q, R]) (fun _ => True) ?_ ?_
    · skip
      skip
      have fm := mkC_at hmk
      refine w_until 12 ([cells b4 [.slice pr L.length cr, .slice pl L.length cl] 35, q]) ?_ ?_
      · (apply ent; (repeat constructor); done)
      apply m_take 0 rfl
      · (first | (apply y_load_agg rfl (hE.t rfl) rfl; (repeat (first | rfl | assumption | constructor)); done) | (apply y_load_agg_q rfl (hE.t rfl) rfl (by assumption); (focus ((repeat constructor); done)); (focus exact fm); (focus rfl); (focus omega)))
      · with_reducible (repeat (first | exact cB | apply cT | apply cK))
      · kernel_rfl
      · rfl
      apply m_take 1 rfl
      · exact yM rfl
      · with_reducible (repeat (first | exact cB | apply cT | apply cK))
      · kernel_rfl
      · rfl
      apply m_take 2 rfl
      · exact yM rfl
      · with_reducible (repeat (first | exact cB | apply cT | apply cK))
      · kernel_rfl
      · rfl
      apply m_take 3 rfl
      · exact y_indexAddr rfl rfl (hE.t rfl) (by omega) (by omega)
      · with_reducible (repeat (first | exact cB | apply cT | apply cK))
      · kernel_rfl
      · rfl
      apply m_take 4 rfl
      · (first | (apply y_load_agg rfl (hE.t rfl) rfl; (repeat (first | rfl | assumption | constructor)); done) | (apply y_load_agg_q rfl (hE.t rfl) rfl (by assumption); (focus ((repeat constructor); done)); (focus exact fm); (focus rfl); (focus omega)))
      · with_reducible (repeat (first | exact cB | apply cT | apply cK))
      · kernel_rfl
      · rfl
      apply m_take 5 rfl
      · exact yM rfl
      · with_reducible (repeat (first | exact cB | apply cT | apply cK))
      · kernel_rfl
      · rfl
      apply m_two 6 10 rfl rfl (by kernel_rfl) rfl rfl
      · skip
        apply ld_call (ct_rOne (m := m) (L := L) (res := res) hE hwf hle.1 (by omega) (by omega) (by omega) htm) rfl (hE.f (by kernel_rfl))
        · ((repeat constructor); done)
        rintro _ _ ⟨p1, c1, p2, c2, rfl, rfl⟩
        simp only [List.cons_append, List.nil_append]
        refine ⟨by (apply ent; (repeat constructor); done), ?_⟩
        apply m_take 7 rfl
        · exact yM rfl
        · with_reducible (repeat (first | exact cB | apply cT | apply cK))
        · kernel_rfl
        · rfl
        apply m_take 8 rfl
        · exact y_extract rfl rfl
        · with_reducible (repeat (first | exact cB | apply cT | apply cK))
        · kernel_rfl
        · rfl
        apply m_take 9 rfl
        · exact y_extract rfl rfl
        · with_reducible (repeat (first | exact cB | apply cT | apply cK))
        · kernel_rfl
        · rfl
        apply m_loud 10 rfl (by kernel_rfl) rfl
        refine ld_alloc (hE.t rfl) (fun b7 => ?_)
        refine ⟨by (apply ent; (repeat constructor); done), ?_⟩
        apply m_loud 11 rfl (by kernel_rfl) rfl
        (first | (apply ld_store rfl rfl (hE.t rfl) rfl; (focus ((repeat constructor); done)); (focus rfl); (focus (exact Nat.le_of_ble_eq_true rfl))) | (apply ld_store_sl rfl rfl (hE.t rfl) rfl; (focus ((repeat constructor); done)); (focus rfl); (focus (first | omega | (simp only [cellsL, length_setMany, List.length_cons, List.length_nil]; omega)))))
        refine ⟨by (apply ent; (repeat constructor); done), ?_⟩
        apply m_one 12 rfl (by kernel_rfl)
        · exact yA rfl
        · rfl
        refine m_nil (by kernel_rfl) ?_
        refine a_cut (⟨b7, p1, c1, p2, c2⟩ : OnG) trivial ⟨rfl, rfl, rfl, rfl, rfl, rfl, rfl, trivial⟩ (by (apply ent; (repeat constructor); done))
      · refine ld_alloc (hE.t rfl) (fun b7 => ?_)
        refine ⟨by (apply ent; (repeat constructor); done), ?_⟩
        apply m_loud 6 rfl (by kernel_rfl) rfl
        apply ld_call (ct_rOne (m := m) (L := L) (res := res) hE hwf hle.1 (by omega) (by omega) (by omega) htm) rfl (hE.f (by kernel_rfl))
        · ((repeat constructor); done)
        rintro _ _ ⟨p1, c1, p2, c2, rfl, rfl⟩
        simp only [List.cons_append, List.nil_append]
        refine ⟨by (apply ent; (repeat constructor); done), ?_⟩
        apply m_one 7 rfl (by kernel_rfl)
        · exact yM rfl
        · rfl
        apply m_take 8 rfl
        · exact y_extract rfl rfl
        · with_reducible (repeat (first | exact cB | apply cT | apply cK))
        · kernel_rfl
        · rfl
        apply m_take 9 rfl
        · exact y_extract rfl rfl
        · with_reducible (repeat (first | exact cB | apply cT | apply cK))
        · kernel_rfl
        · rfl
        apply m_loud 11 rfl (by kernel_rfl) rfl
        (first | (apply ld_store rfl rfl (hE.t rfl) rfl; (focus ((repeat constructor); done)); (focus rfl); (focus (exact Nat.le_of_ble_eq_true rfl))) | (apply ld_store_sl rfl rfl (hE.t rfl) rfl; (focus ((repeat constructor); done)); (focus rfl); (focus (first | omega | (simp only [cellsL, length_setMany, List.length_cons, List.length_nil]; omega)))))
        refine ⟨by (apply ent; (repeat constructor); done), ?_⟩
        apply m_one 12 rfl (by kernel_rfl)
        · exact yA rfl
        · rfl
        refine m_nil (by kernel_rfl) ?_
        refine a_cut (⟨b7, p1, c1, p2, c2⟩ : OnG) trivial ⟨rfl, rfl, rfl, rfl, rfl, rfl, rfl, trivial⟩ (by (apply ent; (repeat constructor); done))
    · rintro ⟨b7, p1, c1, p2, c2⟩ _
      simp only
      skip
      refine w_seq (wR ?_)
      apply lY
      · (first | (apply y_load_agg rfl (hE.t rfl) rfl; (repeat (first | rfl | assumption | constructor)); done) | (apply y_load_agg_q rfl (hE.t rfl) rfl (by assumption); (focus ((repeat constructor); done)); (focus exact fm); (focus rfl); (focus omega)))
      · rfl
      apply lL (by kernel_rfl) rfl
      (first | (apply ld_store rfl rfl (hE.t rfl) rfl; (focus ((repeat constructor); done)); (focus rfl); (focus (exact Nat.le_of_ble_eq_true rfl))) | (apply ld_store_sl rfl rfl (hE.t rfl) rfl; (focus ((repeat constructor); done)); (focus rfl); (focus (first | omega | (simp only [cellsL, length_setMany, List.length_cons, List.length_nil]; omega)))))
      refine l_nil (aT (wR ?_))
      refine lY (yM rfl) rfl ?_
      refine lY (yM rfl) rfl ?_
      apply lL (by kernel_rfl) rfl
      refine ld_buildSlice (hE.t rfl) (hE.t rfl) rfl rfl rfl (fun b30 => ?_)
      apply lL (by kernel_rfl) rfl
      apply ld_append (hE.t rfl) (hE.t rfl) rfl rfl rfl
      · ((repeat constructor); done)
      · ((repeat constructor); done)
      · rfl
      · rfl
      · omega
      · omega
      · (unfold maxLen; omega)
      intro g31 c31 n31 x31 hn31 hx31
      refine lY (yA rfl) rfl ?_
      refine l_nil (a_block (aT (wR ?_)))
      refine lY (yM rfl) rfl ?_
      refine lY (y_add rfl rfl (by omega) (by omega)) rfl ?_
      refine lY (yA rfl) rfl ?_
      refine l_nil ?_
      refine a_round (ι := BdG) (j := ⟨k + 1, p1, c1, p2, c2, g31, c31⟩) (by show k + 1 ≤ ms.length; omega) (by show ms.length - (k + 1) < ms.length - k; omega) ⟨rfl, rfl, rfl, ?_, congrArg some (int_eq (by simp only; omega)), trivial⟩ ?_
      · rw [hn31, hlen]
        rfl
      · obtain rfl : x31 = idC (res ++ [(oneR L res m).2]) := by rw [hx31]; simp [idC]; rfl
        rw [hn31, hlen]
        show ∀ k', _ → stars [cells b4 [.slice p1 (bld ms (k + 1)).1.length c1, .slice p2 (bld ms (k + 1)).1.length c2] 35, sl p1 c1 42 5 (bld ms (k + 1)).1.length (rusC (bld ms (k + 1)).1), sl p2 c2 3 1 (bld ms (k + 1)).1.length (lnC (bld ms (k + 1)).1 (bld ms (k + 1)).1.length), sl (some ⟨g31, 0, none⟩) c31 38 1 (k + 1 + 1) (idC (bld ms (k + 1)).2), _, q, R] k'
        rw [hbs]
        (apply ent; (repeat constructor); done)
  · skip
    obtain rfl : k = ms.length := by omega
    refine w_exit (a_then_exit (a_then_exit (a_block_exit (aT (w_seq (wR ?_))))))
    apply lY
    · (first | (apply y_load_agg rfl (hE.t rfl) rfl; (repeat (first | rfl | assumption | constructor)); done) | (apply y_load_agg_q rfl (hE.t rfl) rfl (by assumption); (focus ((repeat constructor); done)); (focus exact fm); (focus rfl); (focus omega)))
    · rfl
    refine lY (yM rfl) rfl ?_
    apply lL (by kernel_rfl) rfl
    (first | (apply ld_store rfl rfl (hE.t rfl) rfl; (focus ((repeat constructor); done)); (focus rfl); (focus (exact Nat.le_of_ble_eq_true rfl))) | (apply ld_store_sl rfl rfl (hE.t rfl) rfl; (focus ((repeat constructor); done)); (focus rfl); (focus (first | omega | (simp only [cellsL, length_setMany, List.length_cons, List.length_nil]; omega)))))
    refine lY (yA rfl) rfl ?_
    refine l_nil (aT (w_ret ?_))
    apply a_ret
    · rfl
    · ((apply Rs.cell rfl (hE.t rfl) rfl; (focus ((repeat (first | rfl | assumption | constructor)); done))); apply Rs.tmp rfl; exact Rs.nil)
    · exact ⟨pr, cr, pl, cl, g, c, rfl, rfl⟩
    · (apply ent; (repeat constructor); done)
end Go.Proofs.YtekhbjlplfbdkaaDoor
