/- evergreenref12: Add. (Written by mkadd.py.) -/
import Derived.Test.YtekhbjlplfbdkaaDoorQ20
import Derived.Test.YtekhbjlplfbdkaaDoorQ50
set_option linter.unusedVariables false
set_option linter.unusedSimpArgs false
namespace Sl
open Go Go.RowKit
variable {E : Env} {n : Nat} {L L' : Fr} {S H H' : List HP} {K : Value → List HP → Prop} {Q : Exit → Act → World → Prop} {ty : TypeId} {pos : String} {af : Array Edge} {d : Option Nat} {gd : Option (Nat × Bool)}
theorem m_abs {ops : List Oper} {m f : Nat} {l : Array Bool} (h : ∀ W : Nat → Array Bool → Fr → List HP → Prop, (∀ f l L H, W f l L H ↔ WPM E ops m S Q f l n L H) → W f l L H) : WPM E ops m S Q f l n L H := h (fun f l L H => WPM E ops m S Q f l n L H) (fun _ _ _ _ => Iff.rfl)
theorem m_list {ops : List Oper} {m f : Nat} {l' l : Array Bool} (e : l' = l) (h : WPM E ops m S Q f l n L H) : WPM E ops m S Q f l' n L H := e ▸ h
theorem ld_append_slz {x y : Operand} {t e : TypeId} {p a : Option Addr} {c m k cc es by_ sz sz' : Nat} {xs us zs zs' : List Value} {kk : TK} {H'' : List HP} (ht : E.tab t = some ⟨.slice e es by_, sz, zs⟩) (he : E.tab e = some ⟨kk, sz', zs'⟩) (hz : (Nat.beq zs'.length es && Nat.blt 0 es) = true)
    (hx : ev L x = some (.slice p m c)) (hy : ev L y = some (.slice a k cc)) (hm : Take (sl a cc e es k us) H H') (hm2 : Take (sl p c e es m xs) H' H'') (hp : ∀ u ∈ us, u.oneCell' = true) (hb : (m + k) * by_ ≤ 140737488355328) (hb2 : m + k ≤ maxLen)
    (hk : ∀ p' c' m' xs', m' = m + k → xs' = xs ++ us → K (.slice p' m' c') (sl p' c' e es m' xs' :: sl a cc e es k us :: H'')) : Ld E n L H ⟨d, .call { callee := .builtin .append, args := #[x, y], argTypes := #[t, t] }, ty, pos, af, gd⟩ K := fun Q next b w G hn => by
  have s0 := G.hp.take hm
  obtain ⟨h1, h2, _, _, hh, _⟩ := s0.hp
  rcases Nat.eq_zero_or_pos k with rfl | h
  · have hl := (sl_cap hh).2.2
    rw [Nat.zero_mul] at hl
    obtain rfl := List.eq_nil_of_length_eq_zero hl
    have key : Ld E n L (sl p c e es m xs :: sl a cc e es 0 [] :: H'') ⟨d, .call { callee := .builtin .append, args := #[x, y], argTypes := #[t, t] }, ty, pos, af, gd⟩ K := ld_append_none ht hx hy Take.here (hk p c m xs (by simp) (by simp))
    exact key Q next b w ⟨G.f, G.hp.imp fun _ s => stars_swap (stars_cons (fun _ => hm2.out) (hm.out s))⟩ hn
  · obtain ⟨g, rfl⟩ := sl_form hh h
    exact ld_append_sl ht he hz hx hy hm hm2 hp h hb hb2 (fun g' c' m' xs' e1 e2 => hk (some ⟨g', 0, none⟩) c' m' xs' e1 e2) Q next b w G hn
end Sl
namespace Go.Proofs.YtekhbjlplfbdkaaDoor
open Go Go.RowKit Sl Eg
set_option maxRecDepth 10000
variable {E : Env} {L : List Rl}
theorem rusC_one (L : List Rl) : ∀ u ∈ rusC L, u.oneCell' = true := fun u h => by
  obtain ⟨r, _, hr⟩ := List.mem_flatMap.1 h
  simp only [rlC, List.mem_cons, List.not_mem_nil, or_false] at hr
  rcases hr with rfl | rfl | rfl | rfl | rfl <;> rfl
theorem lnC_one (L : List Rl) (n : Nat) : ∀ u ∈ lnC L n, u.oneCell' = true := fun u h => by
  obtain ⟨i, _, rfl⟩ := List.mem_map.1 h; rfl
theorem rusC_length (L : List Rl) : (rusC L).length = L.length * 5 := by
  induction L with
  | nil => rfl
  | cons r L ih => simp only [rusC, List.flatMap_cons, List.length_append, List.length_cons] at ih ⊢; rw [ih]; simp [rlC]; omega
theorem rusC_at {L : List Rl} {k : Nat} {r : Rl} (h : L[k]? = some r) (o : Nat) (ho : o = k * 5) : (rusC L)[o]? = some (.int .i64 (Rl.kind r : Nat)) ∧ (rusC L)[o + 1]? = some (.int .u8 (Rl.byte r : Nat)) ∧ (rusC L)[o + 2]? = some (.int .i64 (Rl.left r : Nat)) ∧ (rusC L)[o + 3]? = some (.int .i64 (Rl.right r : Nat)) ∧ (rusC L)[o + 4]? = some (.int .i64 (Rl.times r : Nat)) := by
  have hk := (List.getElem?_eq_some_iff.1 h).1
  have e : L = L.take k ++ r :: L.drop (k + 1) := by
    obtain ⟨h1, e1⟩ := List.getElem?_eq_some_iff.1 h
    have e2 : L.drop k = r :: L.drop (k + 1) := by rw [List.drop_eq_getElem_cons h1, e1]
    rw [← e2, List.take_append_drop]
  have hl : (rusC (L.take k)).length = o := by rw [rusC_length, List.length_take, Nat.min_eq_left (by omega), ho]
  have e2 : rusC L = rusC (L.take k) ++ (rlC r ++ (L.drop (k + 1)).flatMap rlC) := by
    conv => lhs; rw [e]
    simp [rusC]
  rw [e2]
  subst hl
  exact ⟨ap_0, ap_1, ap_2, ap_3, ap_4⟩
theorem y_eq_rule (hE : Seat E) {n : Nat} {L : Fr} {S : List HP} {ty : TypeId} {pos : String} {af : Array Edge} {d : Option Nat} {gd : Option (Nat × Bool)} {x y : Operand} {yt : TypeId} {a b : Rl} (hx : ev L x = some (ruleV a)) (hy : ev L y = some (ruleV b)) :
    Yl E n L S ⟨d, .binOp .eql 42 x y yt, ty, pos, af, gd⟩ (.bool (decide (a = b))) := fun ac w g _ => by
  have h1 : (eqGuard .eql 42 x y (ruleV a) (ruleV b)).run E.P w = .ok () w := by
    have hg : E.P.eqGuardType E.P.depth 42 = false := by rw [hE.P]; kernel_rfl
    unfold eqGuard ruleV
    simp [program, Sem.run, hg]
  have h2 : binOp .eql 42 (ruleV a) (ruleV b) = (do pure (.bool (← Op.equal 42 (ruleV a) (ruleV b)))) := rfl
  have h3 := rule_equal a b w
  rw [← hE.P] at h3
  simp [execOp, h1, h2, h3, g.ev hx, g.ev hy]
theorem idOf_at {L : List Rl} (hw : Wf L) {r : Rl} {i : Nat} (h : L[i]? = some r) : idOf L r = i + 1 := by
  obtain ⟨h1, h2⟩ := idOf_some (List.mem_of_getElem? h)
  have := hw.nodup _ _ _ h h2
  omega
theorem lnC_snoc (L : List Rl) (r : Rl) (ln : Nat) (hl : len (L ++ [r]) (L.length + 1) = ln) : lnC (L ++ [r]) (L.length + 1) = lnC L L.length ++ [.int .i64 (ln : Nat)] := by
  subst hl
  unfold lnC
  rw [List.range_succ, List.map_append]
  congr 1
  refine List.map_congr_left fun i hi => ?_
  have := List.mem_range.1 hi
  unfold len
  rw [txt_ext _ (by omega)]
theorem rusC_snoc (L : List Rl) (r : Rl) : rusC (L ++ [r]) = rusC L ++ rlC r := by simp [rusC]
theorem ct_rAddR (hE : Seat E) (hw : Wf L) {r : Rl} {pr pl : Option Addr} {cr cl ln : Nat} (hL : L.length ≤ 1000) (hln : len (L ++ [r]) (L.length + 1) = ln) :
    Ct E 62 [.agg #[.slice pr L.length cr, .slice pl L.length cl], .agg #[.int .i64 (Rl.kind (r) : Nat), .int .u8 (Rl.byte (r) : Nat), .int .i64 (Rl.left (r) : Nat), .int .i64 (Rl.right (r) : Nat), .int .i64 (Rl.times (r) : Nat)], .int .i64 (ln : Nat)] [sl pr cr 42 5 L.length (rusC L), sl pl cl 3 1 L.length (lnC L L.length)]
      (fun v Q => ∃ p c p' c', v = .tuple #[.agg #[.slice p (addR L r).1.length c, .slice p' (addR L r).1.length c'], .int .i64 ((addR L r).2 : Nat)] ∧ Q = [sl p c 42 5 (addR L r).1.length (rusC (addR L r).1), sl p' c' 3 1 (addR L r).1.length (lnC (addR L r).1 (addR L r).1.length)]) := by
  refine fn_enter (hE.fn Tryd.func62) rfl rfl rfl (fun R => ?_)
  simp only [argsL, List.cons_append, List.nil_append]
  refine w_seq (wR ?_)
  apply lL (by kernel_rfl) rfl
  refine ld_box rfl (fun b3 => ?_)
  apply lL (by kernel_rfl) rfl
  refine ld_box rfl (fun b4 => ?_)
  apply lL (by kernel_rfl) rfl
  refine ld_alloc (hE.t rfl) (fun b6 => ?_)
  refine lY (yA rfl) rfl ?_
  refine l_nil (aT (w_seq (w_seq (wR ?_))))
  refine lY (yA rfl) rfl ?_
  refine l_nil (aT (w_block ?_))
  skip
  refine w_loop (fun i : Nat => [(2, .int .i64 (ln : Nat)), (3, .pointer (some ⟨b3, 0, none⟩)), (4, .pointer (some ⟨b4, 0, none⟩)), (6, .pointer (some ⟨b6, 0, none⟩)), (7, .int .i64 0), (8, .int .i64 (i : Nat))]) (fun i => [cells b3 [.slice pr L.length cr, .slice pl L.length cl] 35, cells b4 [.int .i64 (Rl.kind (r) : Nat), .int .u8 (Rl.byte (r) : Nat), .int .i64 (Rl.left (r) : Nat), .int .i64 (Rl.right (r) : Nat), .int .i64 (Rl.times (r) : Nat)] 42, sl pr cr 42 5 L.length (rusC L), sl pl cl 3 1 L.length (lnC L L.length), cells b6 [.slice none 0 0, .slice none 0 0] 35, R]) (fun i => L.length - i) (fun i => i ≤ L.length ∧ ∀ j, j < i → L[j]? ≠ some r) 0 ?_ ?_ ?_ ?_
  · exact ⟨Nat.zero_le _, fun j h => absurd h (by omega)⟩
  · exact ⟨rfl, rfl, rfl, rfl, rfl, rfl, trivial⟩
  · (apply ent; (repeat constructor); done)
  rintro i ⟨hi, hno⟩
  skip
  refine w_seq (w_seq (wR ?_))
  refine lY (yM rfl) rfl ?_
  refine lY (yF rfl (hE.t rfl) rfl) rfl ?_
  apply lY
  · (first | (apply y_load rfl (hE.t rfl) rfl; (repeat (first | rfl | assumption | constructor)); done) | exact y_load_old rfl (hE.t rfl) rfl (by assumption) | (apply y_load_ro rfl (hE.t rfl) rfl; (focus ((repeat constructor); done)); (focus assumption)) | (apply y_load_q rfl (hE.t rfl) rfl (by assumption); (focus ((repeat constructor); done)); (first | ((focus exact f0); (focus omega)) | ((focus exact f1); (focus omega)) | ((focus assumption); (focus omega)))))
  · rfl
  refine lY (y_len_slice rfl (hE.t rfl)) rfl ?_
  refine lY (y_lt rfl rfl) rfl ?_
  refine l_nil (aT ?_)
  refine w_cond_d rfl (fun h1 => ?_) (fun h1 => ?_)
  · skip
    have hil : i < L.length := by omega
    obtain ⟨x, hx⟩ : ∃ x, L[i]? = some x := ⟨_, List.getElem?_eq_getElem hil⟩
    refine w_say (p := sl pr cr 42 5 L.length (rusC L)) (by ((repeat constructor); done)) (fun _ h => sl_form h (by omega)) ?_
    rintro ⟨g, rfl⟩
    obtain ⟨f0, f1, f2, f3, f4⟩ := rusC_at hx (0 + ((i : Nat) : Int).toNat * 5) (by omega)
    refine w_skip (aT (w_seq (w_block (w_seq (w_draws (by kernel_rfl) ?_)))))
    refine lY (yF rfl (hE.t rfl) rfl) rfl ?_
    apply lY
    · (first | (apply y_load rfl (hE.t rfl) rfl; (repeat (first | rfl | assumption | constructor)); done) | exact y_load_old rfl (hE.t rfl) rfl (by assumption) | (apply y_load_ro rfl (hE.t rfl) rfl; (focus ((repeat constructor); done)); (focus assumption)) | (apply y_load_q rfl (hE.t rfl) rfl (by assumption); (focus ((repeat constructor); done)); (first | ((focus exact f0); (focus omega)) | ((focus exact f1); (focus omega)) | ((focus assumption); (focus omega)))))
    · rfl
    refine lY (yM rfl) rfl ?_
    refine lY (y_indexAddr rfl rfl (hE.t rfl) (by omega) (by omega)) rfl ?_
    apply lY
    · (first | (apply y_load_agg rfl (hE.t rfl) rfl; (repeat (first | rfl | assumption | constructor)); done) | (apply y_load_agg_old rfl (hE.t rfl) rfl; assumption))
    · rfl
    apply lY
    · (first | (apply y_load_agg rfl (hE.t rfl) rfl; (repeat (first | rfl | assumption | constructor)); done) | (apply y_load_agg_old rfl (hE.t rfl) rfl; assumption))
    · rfl
    apply lY
    · exact y_eq_rule (a := x) (b := r) hE rfl rfl
    · rfl
    refine l_nil (aT ?_)
    refine w_cond_d rfl (fun h2 => ?_) (fun h2 => ?_)
    · skip
      subst h2
      have e : addR L x = (L, i + 1) := by unfold addR; rw [idOf_at hw hx, if_neg (by omega)]
      rw [e]
      refine w_seq (wR ?_)
      apply lY
      · (first | (apply y_load_agg rfl (hE.t rfl) rfl; (repeat (first | rfl | assumption | constructor)); done) | (apply y_load_agg_old rfl (hE.t rfl) rfl; assumption))
      · rfl
      refine lY (yM rfl) rfl ?_
      refine lY (y_add rfl rfl (by omega) (by omega)) rfl ?_
      refine l_eq 25 (.int .i64 ((i + 1 : Nat) : Int)) rfl (int_eq (by omega)) ?_
      apply lL (by kernel_rfl) rfl
      (first | (apply ld_store rfl rfl (hE.t rfl) rfl; (focus ((repeat constructor); done)); (focus rfl); (focus (exact Nat.le_of_ble_eq_true rfl))) | (apply ld_store_sl rfl rfl (hE.t rfl) rfl; (focus ((repeat constructor); done)); (focus rfl); (focus (first | omega | (simp only [cellsL, length_setMany, List.length_cons, List.length_nil]; omega)))))
      refine lY (yA rfl) rfl ?_
      refine l_nil (aT (w_ret (a_block_ret (a_then_ret (a_then_ret (a_block_ret (a_then_ret ?_)))))))
      apply a_ret
      · rfl
      · ((apply Rs.cell rfl (hE.t rfl) rfl; (focus ((repeat (first | rfl | assumption | constructor)); done))); apply Rs.tmp rfl; exact Rs.nil)
      · exact ⟨_, _, _, _, rfl, rfl⟩
      · (apply ent; (repeat constructor); done)
    · skip
      refine w_skip (a_block (aT (wR ?_)))
      refine lY (yM rfl) rfl ?_
      refine lY (y_add rfl rfl (by omega) (by omega)) rfl ?_
      refine lY (yA rfl) rfl ?_
      refine l_nil ?_
      refine a_round (i + 1) ⟨by omega, fun j hj => ?_⟩ (by omega) ⟨rfl, rfl, rfl, rfl, rfl, congrArg some (int_eq (by omega)), trivial⟩ (by (apply ent; (repeat constructor); done))
      by_cases ej : j = i
      · subst ej
        rw [hx]
        intro ee
        exact h2 (Option.some.inj ee)
      · exact hno j (by omega)
  · skip
    obtain rfl : i = L.length := by omega
    have hnr : r ∉ L := fun hm => by
      obtain ⟨k, hk⟩ := List.getElem?_of_mem hm
      exact hno k (List.getElem?_eq_some_iff.1 hk).1 hk
    have e : addR L r = (L ++ [r], L.length + 1) := by unfold addR; rw [if_pos (idOf_zero.2 hnr)]
    rw [e]
    simp only [List.length_append, List.length_singleton]
    rw [rusC_snoc, lnC_snoc L r ln hln]
    refine w_exit (a_then_exit (a_then_exit (a_block_exit (aT ?_))))
    refine w_seq ?_
    refine w_until 20 ([cells b3 [.slice pr L.length cr, .slice pl L.length cl] 35, cells b4 [.int .i64 (Rl.kind (r) : Nat), .int .u8 (Rl.byte (r) : Nat), .int .i64 (Rl.left (r) : Nat), .int .i64 (Rl.right (r) : Nat), .int .i64 (Rl.times (r) : Nat)] 42, sl pr cr 42 5 L.length (rusC L), sl pl cl 3 1 L.length (lnC L L.length)]) ?_ ?_
    · (apply ent; (repeat constructor); done)
    apply m_take 1 rfl
    · exact yF rfl (hE.t rfl) rfl
    · with_reducible (repeat (first | exact cB | apply cT | apply cK))
    · kernel_rfl
    · rfl
    apply m_take 2 rfl
    · (first | (apply y_load rfl (hE.t rfl) rfl; (repeat (first | rfl | assumption | constructor)); done) | exact y_load_old rfl (hE.t rfl) rfl (by assumption) | (apply y_load_ro rfl (hE.t rfl) rfl; (focus ((repeat constructor); done)); (focus assumption)) | (apply y_load_q rfl (hE.t rfl) rfl (by assumption); (focus ((repeat constructor); done)); (first | ((focus exact f0); (focus omega)) | ((focus exact f1); (focus omega)) | ((focus assumption); (focus omega)))))
    · with_reducible (repeat (first | exact cB | apply cT | apply cK))
    · kernel_rfl
    · rfl
    apply m_take 4 rfl
    · (first | (apply y_load_agg rfl (hE.t rfl) rfl; (repeat (first | rfl | assumption | constructor)); done) | (apply y_load_agg_old rfl (hE.t rfl) rfl; assumption))
    · with_reducible (repeat (first | exact cB | apply cT | apply cK))
    · kernel_rfl
    · rfl
    apply m_take 8 rfl
    · exact yF rfl (hE.t rfl) rfl
    · with_reducible (repeat (first | exact cB | apply cT | apply cK))
    · kernel_rfl
    · rfl
    apply m_take 9 rfl
    · (first | (apply y_load rfl (hE.t rfl) rfl; (repeat (first | rfl | assumption | constructor)); done) | exact y_load_old rfl (hE.t rfl) rfl (by assumption) | (apply y_load_ro rfl (hE.t rfl) rfl; (focus ((repeat constructor); done)); (focus assumption)) | (apply y_load_q rfl (hE.t rfl) rfl (by assumption); (focus ((repeat constructor); done)); (first | ((focus exact f0); (focus omega)) | ((focus exact f1); (focus omega)) | ((focus assumption); (focus omega)))))
    · with_reducible (repeat (first | exact cB | apply cT | apply cK))
    · kernel_rfl
    · rfl
    apply m_take 11 rfl
    · exact yM rfl
    · with_reducible (repeat (first | exact cB | apply cT | apply cK))
    · kernel_rfl
    · rfl
    apply m_take 15 rfl
    · exact yF rfl (hE.t rfl) rfl
    · with_reducible (repeat (first | exact cB | apply cT | apply cK))
    · kernel_rfl
    · rfl
    apply m_take 16 rfl
    · (first | (apply y_load rfl (hE.t rfl) rfl; (repeat (first | rfl | assumption | constructor)); done) | exact y_load_old rfl (hE.t rfl) rfl (by assumption) | (apply y_load_ro rfl (hE.t rfl) rfl; (focus ((repeat constructor); done)); (focus assumption)) | (apply y_load_q rfl (hE.t rfl) rfl (by assumption); (focus ((repeat constructor); done)); (first | ((focus exact f0); (focus omega)) | ((focus exact f1); (focus omega)) | ((focus assumption); (focus omega)))))
    · with_reducible (repeat (first | exact cB | apply cT | apply cK))
    · kernel_rfl
    · rfl
    apply m_take 17 rfl
    · exact y_len_slice rfl (hE.t rfl)
    · with_reducible (repeat (first | exact cB | apply cT | apply cK))
    · kernel_rfl
    · rfl
    apply m_take 18 rfl
    · exact y_add rfl rfl (by omega) (by omega)
    · with_reducible (repeat (first | exact cB | apply cT | apply cK))
    · kernel_rfl
    · rfl
    refine m_abs (fun W hW => ?_)
    have st11114 : ∀ (p32 : Option Addr) (c32 : Nat) (p39 : Option Addr) (c39 : Nat), W 3 #[true, true, true, true, true, true, true, true, true, true, true, true, true, true, false, true, true, true, true, false, false] [(6, .pointer (some ⟨b6, 0, none⟩)), (28, .slice pr L.length cr), (30, .agg #[.int .i64 (Rl.kind (r) : Nat), .int .u8 (Rl.byte (r) : Nat), .int .i64 (Rl.left (r) : Nat), .int .i64 (Rl.right (r) : Nat), .int .i64 (Rl.times (r) : Nat)]), (35, .slice pl L.length cl), (37, .int .i64 (ln : Nat)), (44, .int .i64 ((L.length + 1 : Nat) : Int)), (32, .slice p32 (L.length + 1) c32), (39, .slice p39 (L.length + 1) c39)] [cells b3 [.slice pr L.length cr, .slice pl L.length cl] 35, cells b4 [.int .i64 (Rl.kind (r) : Nat), .int .u8 (Rl.byte (r) : Nat), .int .i64 (Rl.left (r) : Nat), .int .i64 (Rl.right (r) : Nat), .int .i64 (Rl.times (r) : Nat)] 42, sl pr cr 42 5 L.length (rusC L), sl pl cl 3 1 L.length (lnC L L.length), sl p32 c32 42 5 (L.length + 1) (rusC L ++ rlC r), sl p39 c39 3 1 (L.length + 1) (lnC L L.length ++ [.int .i64 (ln : Nat)]), cells b6 [.slice none 0 0, .slice none 0 0] 35, R] := by
      intro p32 c32 p39 c39
      refine (hW _ _ _ _).2 ?_
      skip
      apply m_one 14 rfl (by kernel_rfl)
      · (first | exact y_build (hE.t rfl) rfl rfl | exact y_buildA (hE.t rfl) rfl rfl)
      · rfl
      apply m_loud 19 rfl (by kernel_rfl) rfl
      (first | (apply ld_store rfl rfl (hE.t rfl) rfl; (focus ((repeat constructor); done)); (focus rfl); (focus (exact Nat.le_of_ble_eq_true rfl))) | (apply ld_store_sl rfl rfl (hE.t rfl) rfl; (focus ((repeat constructor); done)); (focus rfl); (focus (first | omega | (simp only [cellsL, length_setMany, List.length_cons, List.length_nil]; omega)))))
      refine ⟨by (apply ent; (repeat constructor); done), ?_⟩
      apply m_one 20 rfl (by kernel_rfl)
      · exact yA rfl
      · rfl
      refine m_nil (by kernel_rfl) ?_
      refine aT (w_ret ?_)
      apply a_ret
      · rfl
      · ((apply Rs.cell rfl (hE.t rfl) rfl; (focus ((repeat (first | rfl | assumption | constructor)); done))); apply Rs.tmp rfl; exact Rs.nil)
      · exact ⟨p32, c32, p39, c39, rfl, rfl⟩
      · (apply ent; (repeat constructor); done)
    have st11113 : ∀ (b38 : Nat) (p32 : Option Addr) (c32 : Nat) (p36 : Option Addr) (c36 : Nat), W 4 #[true, true, true, true, true, true, true, true, true, true, true, true, true, false, false, true, true, true, true, false, false] [(6, .pointer (some ⟨b6, 0, none⟩)), (28, .slice pr L.length cr), (30, .agg #[.int .i64 (Rl.kind (r) : Nat), .int .u8 (Rl.byte (r) : Nat), .int .i64 (Rl.left (r) : Nat), .int .i64 (Rl.right (r) : Nat), .int .i64 (Rl.times (r) : Nat)]), (35, .slice pl L.length cl), (37, .int .i64 (ln : Nat)), (44, .int .i64 ((L.length + 1 : Nat) : Int)), (38, .slice (some ⟨b38, 0, none⟩) 1 1), (32, .slice p32 (L.length + 1) c32), (36, .slice p36 L.length c36)] [cells b3 [.slice pr L.length cr, .slice pl L.length cl] 35, cells b4 [.int .i64 (Rl.kind (r) : Nat), .int .u8 (Rl.byte (r) : Nat), .int .i64 (Rl.left (r) : Nat), .int .i64 (Rl.right (r) : Nat), .int .i64 (Rl.times (r) : Nat)] 42, sl pr cr 42 5 L.length (rusC L), sl pl cl 3 1 L.length (lnC L L.length), cells b38 [.int .i64 (ln : Nat)] 3, sl p32 c32 42 5 (L.length + 1) (rusC L ++ rlC r), sl p36 c36 3 1 L.length (lnC L L.length), cells b6 [.slice none 0 0, .slice none 0 0] 35, R] := by
      intro b38 p32 c32 p36 c36
      refine (hW _ _ _ _).2 ?_
      refine m_any [13] (by kernel_rfl) (by simp) (fun i hi => ?_)
      obtain rfl : i = 13 := by simpa using hi
      · refine ⟨_, _, _, _, _, rfl, rfl, ?_⟩
        apply ld_append (hE.t rfl) (hE.t rfl) rfl rfl rfl
        · ((repeat constructor); done)
        · ((repeat constructor); done)
        · rfl
        · rfl
        · omega
        · omega
        · (unfold maxLen; omega)
        intro g39 c39 m39 x39 hm39 hx39
        subst hm39 hx39
        refine ⟨by (apply ent; (repeat constructor); done), m_list (l := #[true, true, true, true, true, true, true, true, true, true, true, true, true, true, false, true, true, true, true, false, false]) (by kernel_rfl) (m_weak ?_ ?_ ?_ ((hW _ _ _ _).1 (st11114 p32 c32 (some ⟨g39, 0, none⟩) c39)))⟩
        · exact ⟨rfl, rfl, rfl, rfl, rfl, rfl, rfl, rfl, trivial⟩
        · (apply ent; (repeat constructor); done)
        · (apply ent; (repeat constructor); done)
    have st11103 : ∀ (p32 : Option Addr) (c32 : Nat) (p36 : Option Addr) (c36 : Nat), W 5 #[true, true, true, true, true, true, true, true, true, true, true, true, false, false, false, true, true, true, true, false, false] [(6, .pointer (some ⟨b6, 0, none⟩)), (28, .slice pr L.length cr), (30, .agg #[.int .i64 (Rl.kind (r) : Nat), .int .u8 (Rl.byte (r) : Nat), .int .i64 (Rl.left (r) : Nat), .int .i64 (Rl.right (r) : Nat), .int .i64 (Rl.times (r) : Nat)]), (35, .slice pl L.length cl), (37, .int .i64 (ln : Nat)), (44, .int .i64 ((L.length + 1 : Nat) : Int)), (32, .slice p32 (L.length + 1) c32), (36, .slice p36 L.length c36)] [cells b3 [.slice pr L.length cr, .slice pl L.length cl] 35, cells b4 [.int .i64 (Rl.kind (r) : Nat), .int .u8 (Rl.byte (r) : Nat), .int .i64 (Rl.left (r) : Nat), .int .i64 (Rl.right (r) : Nat), .int .i64 (Rl.times (r) : Nat)] 42, sl pr cr 42 5 L.length (rusC L), sl pl cl 3 1 L.length (lnC L L.length), sl p32 c32 42 5 (L.length + 1) (rusC L ++ rlC r), sl p36 c36 3 1 L.length (lnC L L.length), cells b6 [.slice none 0 0, .slice none 0 0] 35, R] := by
      intro p32 c32 p36 c36
      refine (hW _ _ _ _).2 ?_
      refine m_any [12] (by kernel_rfl) (by simp) (fun i hi => ?_)
      obtain rfl : i = 12 := by simpa using hi
      · refine ⟨_, _, _, _, _, rfl, rfl, ?_⟩
        refine ld_buildSlice (hE.t rfl) (hE.t rfl) rfl rfl rfl (fun b38 => ?_)
        refine ⟨by (apply ent; (repeat constructor); done), m_list (l := #[true, true, true, true, true, true, true, true, true, true, true, true, true, false, false, true, true, true, true, false, false]) (by kernel_rfl) (m_weak ?_ ?_ ?_ ((hW _ _ _ _).1 (st11113 b38 p32 c32 p36 c36)))⟩
        · exact ⟨rfl, rfl, rfl, rfl, rfl, rfl, rfl, rfl, rfl, trivial⟩
        · (apply ent; (repeat constructor); done)
        · (apply ent; (repeat constructor); done)
    have st11112 : ∀ (b33 : Nat) (b38 : Nat) (p32 : Option Addr) (c32 : Nat), W 5 #[true, true, true, true, true, true, true, true, true, true, false, true, true, false, false, true, true, true, true, false, false] [(6, .pointer (some ⟨b6, 0, none⟩)), (28, .slice pr L.length cr), (30, .agg #[.int .i64 (Rl.kind (r) : Nat), .int .u8 (Rl.byte (r) : Nat), .int .i64 (Rl.left (r) : Nat), .int .i64 (Rl.right (r) : Nat), .int .i64 (Rl.times (r) : Nat)]), (35, .slice pl L.length cl), (37, .int .i64 (ln : Nat)), (44, .int .i64 ((L.length + 1 : Nat) : Int)), (33, .slice (some ⟨b33, 0, none⟩) 0 0), (38, .slice (some ⟨b38, 0, none⟩) 1 1), (32, .slice p32 (L.length + 1) c32)] [cells b3 [.slice pr L.length cr, .slice pl L.length cl] 35, cells b4 [.int .i64 (Rl.kind (r) : Nat), .int .u8 (Rl.byte (r) : Nat), .int .i64 (Rl.left (r) : Nat), .int .i64 (Rl.right (r) : Nat), .int .i64 (Rl.times (r) : Nat)] 42, sl pr cr 42 5 L.length (rusC L), sl pl cl 3 1 L.length (lnC L L.length), sl (some ⟨b33, 0, none⟩) 0 3 1 0 [], cells b38 [.int .i64 (ln : Nat)] 3, sl p32 c32 42 5 (L.length + 1) (rusC L ++ rlC r), cells b6 [.slice none 0 0, .slice none 0 0] 35, R] := by
      intro b33 b38 p32 c32
      refine (hW _ _ _ _).2 ?_
      refine m_any [10] (by kernel_rfl) (by simp) (fun i hi => ?_)
      obtain rfl : i = 10 := by simpa using hi
      · refine ⟨_, _, _, _, _, rfl, rfl, ?_⟩
        apply ld_append_slz (hE.t rfl) (hE.t rfl) rfl rfl rfl
        · ((repeat constructor); done)
        · ((repeat constructor); done)
        · exact lnC_one L _
        · omega
        · (unfold maxLen; omega)
        intro p36 c36 m36 x36 hm36 hx36
        obtain rfl : m36 = L.length := by omega
        obtain rfl : x36 = lnC L L.length := by rw [hx36]; rfl
        refine ⟨by (apply ent; (repeat constructor); done), m_list (l := #[true, true, true, true, true, true, true, true, true, true, true, true, true, false, false, true, true, true, true, false, false]) (by kernel_rfl) (m_weak ?_ ?_ ?_ ((hW _ _ _ _).1 (st11113 b38 p32 c32 p36 c36)))⟩
        · exact ⟨rfl, rfl, rfl, rfl, rfl, rfl, rfl, rfl, rfl, trivial⟩
        · (apply ent; (repeat constructor); done)
        · (apply ent; (repeat constructor); done)
    have st11012 : ∀ (b38 : Nat) (p32 : Option Addr) (c32 : Nat), W 6 #[true, true, true, true, true, true, true, false, true, true, false, true, true, false, false, true, true, true, true, false, false] [(6, .pointer (some ⟨b6, 0, none⟩)), (28, .slice pr L.length cr), (30, .agg #[.int .i64 (Rl.kind (r) : Nat), .int .u8 (Rl.byte (r) : Nat), .int .i64 (Rl.left (r) : Nat), .int .i64 (Rl.right (r) : Nat), .int .i64 (Rl.times (r) : Nat)]), (35, .slice pl L.length cl), (37, .int .i64 (ln : Nat)), (44, .int .i64 ((L.length + 1 : Nat) : Int)), (38, .slice (some ⟨b38, 0, none⟩) 1 1), (32, .slice p32 (L.length + 1) c32)] [cells b3 [.slice pr L.length cr, .slice pl L.length cl] 35, cells b4 [.int .i64 (Rl.kind (r) : Nat), .int .u8 (Rl.byte (r) : Nat), .int .i64 (Rl.left (r) : Nat), .int .i64 (Rl.right (r) : Nat), .int .i64 (Rl.times (r) : Nat)] 42, sl pr cr 42 5 L.length (rusC L), sl pl cl 3 1 L.length (lnC L L.length), cells b38 [.int .i64 (ln : Nat)] 3, sl p32 c32 42 5 (L.length + 1) (rusC L ++ rlC r), cells b6 [.slice none 0 0, .slice none 0 0] 35, R] := by
      intro b38 p32 c32
      refine (hW _ _ _ _).2 ?_
      refine m_any [7] (by kernel_rfl) (by simp) (fun i hi => ?_)
      obtain rfl : i = 7 := by simpa using hi
      · refine ⟨_, _, _, _, _, rfl, rfl, ?_⟩
        refine ld_buildSlice0 (hE.t rfl) (fun b33 => ?_)
        refine ⟨by (apply ent; (repeat constructor); done), m_list (l := #[true, true, true, true, true, true, true, true, true, true, false, true, true, false, false, true, true, true, true, false, false]) (by kernel_rfl) (m_weak ?_ ?_ ?_ ((hW _ _ _ _).1 (st11112 b33 b38 p32 c32)))⟩
        · exact ⟨rfl, rfl, rfl, rfl, rfl, rfl, rfl, rfl, rfl, trivial⟩
        · (apply ent; (repeat constructor); done)
        · (apply ent; (repeat constructor); done)
    have st11102 : ∀ (b33 : Nat) (p32 : Option Addr) (c32 : Nat), W 6 #[true, true, true, true, true, true, true, true, true, true, false, true, false, false, false, true, true, true, true, false, false] [(6, .pointer (some ⟨b6, 0, none⟩)), (28, .slice pr L.length cr), (30, .agg #[.int .i64 (Rl.kind (r) : Nat), .int .u8 (Rl.byte (r) : Nat), .int .i64 (Rl.left (r) : Nat), .int .i64 (Rl.right (r) : Nat), .int .i64 (Rl.times (r) : Nat)]), (35, .slice pl L.length cl), (37, .int .i64 (ln : Nat)), (44, .int .i64 ((L.length + 1 : Nat) : Int)), (33, .slice (some ⟨b33, 0, none⟩) 0 0), (32, .slice p32 (L.length + 1) c32)] [cells b3 [.slice pr L.length cr, .slice pl L.length cl] 35, cells b4 [.int .i64 (Rl.kind (r) : Nat), .int .u8 (Rl.byte (r) : Nat), .int .i64 (Rl.left (r) : Nat), .int .i64 (Rl.right (r) : Nat), .int .i64 (Rl.times (r) : Nat)] 42, sl pr cr 42 5 L.length (rusC L), sl pl cl 3 1 L.length (lnC L L.length), sl (some ⟨b33, 0, none⟩) 0 3 1 0 [], sl p32 c32 42 5 (L.length + 1) (rusC L ++ rlC r), cells b6 [.slice none 0 0, .slice none 0 0] 35, R] := by
      intro b33 p32 c32
      refine (hW _ _ _ _).2 ?_
      refine m_any [10, 12] (by kernel_rfl) (by simp) (fun i hi => ?_)
      simp only [List.mem_cons, List.not_mem_nil, or_false] at hi
      rcases hi with rfl | rfl
      · refine ⟨_, _, _, _, _, rfl, rfl, ?_⟩
        apply ld_append_slz (hE.t rfl) (hE.t rfl) rfl rfl rfl
        · ((repeat constructor); done)
        · ((repeat constructor); done)
        · exact lnC_one L _
        · omega
        · (unfold maxLen; omega)
        intro p36 c36 m36 x36 hm36 hx36
        obtain rfl : m36 = L.length := by omega
        obtain rfl : x36 = lnC L L.length := by rw [hx36]; rfl
        refine ⟨by (apply ent; (repeat constructor); done), m_list (l := #[true, true, true, true, true, true, true, true, true, true, true, true, false, false, false, true, true, true, true, false, false]) (by kernel_rfl) (m_weak ?_ ?_ ?_ ((hW _ _ _ _).1 (st11103 p32 c32 p36 c36)))⟩
        · exact ⟨rfl, rfl, rfl, rfl, rfl, rfl, rfl, rfl, trivial⟩
        · (apply ent; (repeat constructor); done)
        · (apply ent; (repeat constructor); done)
      · refine ⟨_, _, _, _, _, rfl, rfl, ?_⟩
        refine ld_buildSlice (hE.t rfl) (hE.t rfl) rfl rfl rfl (fun b38 => ?_)
        refine ⟨by (apply ent; (repeat constructor); done), m_list (l := #[true, true, true, true, true, true, true, true, true, true, false, true, true, false, false, true, true, true, true, false, false]) (by kernel_rfl) (m_weak ?_ ?_ ?_ ((hW _ _ _ _).1 (st11112 b33 b38 p32 c32)))⟩
        · exact ⟨rfl, rfl, rfl, rfl, rfl, rfl, rfl, rfl, rfl, trivial⟩
        · (apply ent; (repeat constructor); done)
        · (apply ent; (repeat constructor); done)
    have st11111 : ∀ (b31 : Nat) (b33 : Nat) (b38 : Nat) (p29 : Option Addr) (c29 : Nat), W 6 #[true, true, true, true, true, true, false, true, true, true, false, true, true, false, false, true, true, true, true, false, false] [(6, .pointer (some ⟨b6, 0, none⟩)), (28, .slice pr L.length cr), (30, .agg #[.int .i64 (Rl.kind (r) : Nat), .int .u8 (Rl.byte (r) : Nat), .int .i64 (Rl.left (r) : Nat), .int .i64 (Rl.right (r) : Nat), .int .i64 (Rl.times (r) : Nat)]), (35, .slice pl L.length cl), (37, .int .i64 (ln : Nat)), (44, .int .i64 ((L.length + 1 : Nat) : Int)), (31, .slice (some ⟨b31, 0, none⟩) 1 1), (33, .slice (some ⟨b33, 0, none⟩) 0 0), (38, .slice (some ⟨b38, 0, none⟩) 1 1), (29, .slice p29 L.length c29)] [cells b3 [.slice pr L.length cr, .slice pl L.length cl] 35, cells b4 [.int .i64 (Rl.kind (r) : Nat), .int .u8 (Rl.byte (r) : Nat), .int .i64 (Rl.left (r) : Nat), .int .i64 (Rl.right (r) : Nat), .int .i64 (Rl.times (r) : Nat)] 42, sl pr cr 42 5 L.length (rusC L), sl pl cl 3 1 L.length (lnC L L.length), cells b31 (rlC r) 42, sl (some ⟨b33, 0, none⟩) 0 3 1 0 [], cells b38 [.int .i64 (ln : Nat)] 3, sl p29 c29 42 5 L.length (rusC L), cells b6 [.slice none 0 0, .slice none 0 0] 35, R] := by
      intro b31 b33 b38 p29 c29
      refine (hW _ _ _ _).2 ?_
      refine m_any [6] (by kernel_rfl) (by simp) (fun i hi => ?_)
      obtain rfl : i = 6 := by simpa using hi
      · refine ⟨_, _, _, _, _, rfl, rfl, ?_⟩
        apply ld_append (hE.t rfl) (hE.t rfl) rfl rfl rfl
        · ((repeat constructor); done)
        · ((repeat constructor); done)
        · rfl
        · rfl
        · omega
        · omega
        · (unfold maxLen; omega)
        intro g32 c32 m32 x32 hm32 hx32
        subst hm32 hx32
        refine ⟨by (apply ent; (repeat constructor); done), m_list (l := #[true, true, true, true, true, true, true, true, true, true, false, true, true, false, false, true, true, true, true, false, false]) (by kernel_rfl) (m_weak ?_ ?_ ?_ ((hW _ _ _ _).1 (st11112 b33 b38 (some ⟨g32, 0, none⟩) c32)))⟩
        · exact ⟨rfl, rfl, rfl, rfl, rfl, rfl, rfl, rfl, rfl, trivial⟩
        · (apply ent; (repeat constructor); done)
        · (apply ent; (repeat constructor); done)
    have st10111 : ∀ (b33 : Nat) (b38 : Nat) (p29 : Option Addr) (c29 : Nat), W 7 #[true, true, true, true, true, false, false, true, true, true, false, true, true, false, false, true, true, true, true, false, false] [(6, .pointer (some ⟨b6, 0, none⟩)), (28, .slice pr L.length cr), (30, .agg #[.int .i64 (Rl.kind (r) : Nat), .int .u8 (Rl.byte (r) : Nat), .int .i64 (Rl.left (r) : Nat), .int .i64 (Rl.right (r) : Nat), .int .i64 (Rl.times (r) : Nat)]), (35, .slice pl L.length cl), (37, .int .i64 (ln : Nat)), (44, .int .i64 ((L.length + 1 : Nat) : Int)), (33, .slice (some ⟨b33, 0, none⟩) 0 0), (38, .slice (some ⟨b38, 0, none⟩) 1 1), (29, .slice p29 L.length c29)] [cells b3 [.slice pr L.length cr, .slice pl L.length cl] 35, cells b4 [.int .i64 (Rl.kind (r) : Nat), .int .u8 (Rl.byte (r) : Nat), .int .i64 (Rl.left (r) : Nat), .int .i64 (Rl.right (r) : Nat), .int .i64 (Rl.times (r) : Nat)] 42, sl pr cr 42 5 L.length (rusC L), sl pl cl 3 1 L.length (lnC L L.length), sl (some ⟨b33, 0, none⟩) 0 3 1 0 [], cells b38 [.int .i64 (ln : Nat)] 3, sl p29 c29 42 5 L.length (rusC L), cells b6 [.slice none 0 0, .slice none 0 0] 35, R] := by
      intro b33 b38 p29 c29
      refine (hW _ _ _ _).2 ?_
      refine m_any [5] (by kernel_rfl) (by simp) (fun i hi => ?_)
      obtain rfl : i = 5 := by simpa using hi
      · refine ⟨_, _, _, _, _, rfl, rfl, ?_⟩
        refine ld_buildSlice (hE.t rfl) (hE.t rfl) rfl rfl rfl (fun b31 => ?_)
        refine ⟨by (apply ent; (repeat constructor); done), m_list (l := #[true, true, true, true, true, true, false, true, true, true, false, true, true, false, false, true, true, true, true, false, false]) (by kernel_rfl) (m_weak ?_ ?_ ?_ ((hW _ _ _ _).1 (st11111 b31 b33 b38 p29 c29)))⟩
        · exact ⟨rfl, rfl, rfl, rfl, rfl, rfl, rfl, rfl, rfl, rfl, trivial⟩
        · (apply ent; (repeat constructor); done)
        · (apply ent; (repeat constructor); done)
    have st11002 : ∀ (p32 : Option Addr) (c32 : Nat), W 7 #[true, true, true, true, true, true, true, false, true, true, false, true, false, false, false, true, true, true, true, false, false] [(6, .pointer (some ⟨b6, 0, none⟩)), (28, .slice pr L.length cr), (30, .agg #[.int .i64 (Rl.kind (r) : Nat), .int .u8 (Rl.byte (r) : Nat), .int .i64 (Rl.left (r) : Nat), .int .i64 (Rl.right (r) : Nat), .int .i64 (Rl.times (r) : Nat)]), (35, .slice pl L.length cl), (37, .int .i64 (ln : Nat)), (44, .int .i64 ((L.length + 1 : Nat) : Int)), (32, .slice p32 (L.length + 1) c32)] [cells b3 [.slice pr L.length cr, .slice pl L.length cl] 35, cells b4 [.int .i64 (Rl.kind (r) : Nat), .int .u8 (Rl.byte (r) : Nat), .int .i64 (Rl.left (r) : Nat), .int .i64 (Rl.right (r) : Nat), .int .i64 (Rl.times (r) : Nat)] 42, sl pr cr 42 5 L.length (rusC L), sl pl cl 3 1 L.length (lnC L L.length), sl p32 c32 42 5 (L.length + 1) (rusC L ++ rlC r), cells b6 [.slice none 0 0, .slice none 0 0] 35, R] := by
      intro p32 c32
      refine (hW _ _ _ _).2 ?_
      refine m_any [7, 12] (by kernel_rfl) (by simp) (fun i hi => ?_)
      simp only [List.mem_cons, List.not_mem_nil, or_false] at hi
      rcases hi with rfl | rfl
      · refine ⟨_, _, _, _, _, rfl, rfl, ?_⟩
        refine ld_buildSlice0 (hE.t rfl) (fun b33 => ?_)
        refine ⟨by (apply ent; (repeat constructor); done), m_list (l := #[true, true, true, true, true, true, true, true, true, true, false, true, false, false, false, true, true, true, true, false, false]) (by kernel_rfl) (m_weak ?_ ?_ ?_ ((hW _ _ _ _).1 (st11102 b33 p32 c32)))⟩
        · exact ⟨rfl, rfl, rfl, rfl, rfl, rfl, rfl, rfl, trivial⟩
        · (apply ent; (repeat constructor); done)
        · (apply ent; (repeat constructor); done)
      · refine ⟨_, _, _, _, _, rfl, rfl, ?_⟩
        refine ld_buildSlice (hE.t rfl) (hE.t rfl) rfl rfl rfl (fun b38 => ?_)
        refine ⟨by (apply ent; (repeat constructor); done), m_list (l := #[true, true, true, true, true, true, true, false, true, true, false, true, true, false, false, true, true, true, true, false, false]) (by kernel_rfl) (m_weak ?_ ?_ ?_ ((hW _ _ _ _).1 (st11012 b38 p32 c32)))⟩
        · exact ⟨rfl, rfl, rfl, rfl, rfl, rfl, rfl, rfl, trivial⟩
        · (apply ent; (repeat constructor); done)
        · (apply ent; (repeat constructor); done)
    have st11011 : ∀ (b31 : Nat) (b38 : Nat) (p29 : Option Addr) (c29 : Nat), W 7 #[true, true, true, true, true, true, false, false, true, true, false, true, true, false, false, true, true, true, true, false, false] [(6, .pointer (some ⟨b6, 0, none⟩)), (28, .slice pr L.length cr), (30, .agg #[.int .i64 (Rl.kind (r) : Nat), .int .u8 (Rl.byte (r) : Nat), .int .i64 (Rl.left (r) : Nat), .int .i64 (Rl.right (r) : Nat), .int .i64 (Rl.times (r) : Nat)]), (35, .slice pl L.length cl), (37, .int .i64 (ln : Nat)), (44, .int .i64 ((L.length + 1 : Nat) : Int)), (31, .slice (some ⟨b31, 0, none⟩) 1 1), (38, .slice (some ⟨b38, 0, none⟩) 1 1), (29, .slice p29 L.length c29)] [cells b3 [.slice pr L.length cr, .slice pl L.length cl] 35, cells b4 [.int .i64 (Rl.kind (r) : Nat), .int .u8 (Rl.byte (r) : Nat), .int .i64 (Rl.left (r) : Nat), .int .i64 (Rl.right (r) : Nat), .int .i64 (Rl.times (r) : Nat)] 42, sl pr cr 42 5 L.length (rusC L), sl pl cl 3 1 L.length (lnC L L.length), cells b31 (rlC r) 42, cells b38 [.int .i64 (ln : Nat)] 3, sl p29 c29 42 5 L.length (rusC L), cells b6 [.slice none 0 0, .slice none 0 0] 35, R] := by
      intro b31 b38 p29 c29
      refine (hW _ _ _ _).2 ?_
      refine m_any [6, 7] (by kernel_rfl) (by simp) (fun i hi => ?_)
      simp only [List.mem_cons, List.not_mem_nil, or_false] at hi
      rcases hi with rfl | rfl
      · refine ⟨_, _, _, _, _, rfl, rfl, ?_⟩
        apply ld_append (hE.t rfl) (hE.t rfl) rfl rfl rfl
        · ((repeat constructor); done)
        · ((repeat constructor); done)
        · rfl
        · rfl
        · omega
        · omega
        · (unfold maxLen; omega)
        intro g32 c32 m32 x32 hm32 hx32
        subst hm32 hx32
        refine ⟨by (apply ent; (repeat constructor); done), m_list (l := #[true, true, true, true, true, true, true, false, true, true, false, true, true, false, false, true, true, true, true, false, false]) (by kernel_rfl) (m_weak ?_ ?_ ?_ ((hW _ _ _ _).1 (st11012 b38 (some ⟨g32, 0, none⟩) c32)))⟩
        · exact ⟨rfl, rfl, rfl, rfl, rfl, rfl, rfl, rfl, trivial⟩
        · (apply ent; (repeat constructor); done)
        · (apply ent; (repeat constructor); done)
      · refine ⟨_, _, _, _, _, rfl, rfl, ?_⟩
        refine ld_buildSlice0 (hE.t rfl) (fun b33 => ?_)
        refine ⟨by (apply ent; (repeat constructor); done), m_list (l := #[true, true, true, true, true, true, false, true, true, true, false, true, true, false, false, true, true, true, true, false, false]) (by kernel_rfl) (m_weak ?_ ?_ ?_ ((hW _ _ _ _).1 (st11111 b31 b33 b38 p29 c29)))⟩
        · exact ⟨rfl, rfl, rfl, rfl, rfl, rfl, rfl, rfl, rfl, rfl, trivial⟩
        · (apply ent; (repeat constructor); done)
        · (apply ent; (repeat constructor); done)
    have st11101 : ∀ (b31 : Nat) (b33 : Nat) (p29 : Option Addr) (c29 : Nat), W 7 #[true, true, true, true, true, true, false, true, true, true, false, true, false, false, false, true, true, true, true, false, false] [(6, .pointer (some ⟨b6, 0, none⟩)), (28, .slice pr L.length cr), (30, .agg #[.int .i64 (Rl.kind (r) : Nat), .int .u8 (Rl.byte (r) : Nat), .int .i64 (Rl.left (r) : Nat), .int .i64 (Rl.right (r) : Nat), .int .i64 (Rl.times (r) : Nat)]), (35, .slice pl L.length cl), (37, .int .i64 (ln : Nat)), (44, .int .i64 ((L.length + 1 : Nat) : Int)), (31, .slice (some ⟨b31, 0, none⟩) 1 1), (33, .slice (some ⟨b33, 0, none⟩) 0 0), (29, .slice p29 L.length c29)] [cells b3 [.slice pr L.length cr, .slice pl L.length cl] 35, cells b4 [.int .i64 (Rl.kind (r) : Nat), .int .u8 (Rl.byte (r) : Nat), .int .i64 (Rl.left (r) : Nat), .int .i64 (Rl.right (r) : Nat), .int .i64 (Rl.times (r) : Nat)] 42, sl pr cr 42 5 L.length (rusC L), sl pl cl 3 1 L.length (lnC L L.length), cells b31 (rlC r) 42, sl (some ⟨b33, 0, none⟩) 0 3 1 0 [], sl p29 c29 42 5 L.length (rusC L), cells b6 [.slice none 0 0, .slice none 0 0] 35, R] := by
      intro b31 b33 p29 c29
      refine (hW _ _ _ _).2 ?_
      refine m_any [6, 12] (by kernel_rfl) (by simp) (fun i hi => ?_)
      simp only [List.mem_cons, List.not_mem_nil, or_false] at hi
      rcases hi with rfl | rfl
      · refine ⟨_, _, _, _, _, rfl, rfl, ?_⟩
        apply ld_append (hE.t rfl) (hE.t rfl) rfl rfl rfl
        · ((repeat constructor); done)
        · ((repeat constructor); done)
        · rfl
        · rfl
        · omega
        · omega
        · (unfold maxLen; omega)
        intro g32 c32 m32 x32 hm32 hx32
        subst hm32 hx32
        refine ⟨by (apply ent; (repeat constructor); done), m_list (l := #[true, true, true, true, true, true, true, true, true, true, false, true, false, false, false, true, true, true, true, false, false]) (by kernel_rfl) (m_weak ?_ ?_ ?_ ((hW _ _ _ _).1 (st11102 b33 (some ⟨g32, 0, none⟩) c32)))⟩
        · exact ⟨rfl, rfl, rfl, rfl, rfl, rfl, rfl, rfl, trivial⟩
        · (apply ent; (repeat constructor); done)
        · (apply ent; (repeat constructor); done)
      · refine ⟨_, _, _, _, _, rfl, rfl, ?_⟩
        refine ld_buildSlice (hE.t rfl) (hE.t rfl) rfl rfl rfl (fun b38 => ?_)
        refine ⟨by (apply ent; (repeat constructor); done), m_list (l := #[true, true, true, true, true, true, false, true, true, true, false, true, true, false, false, true, true, true, true, false, false]) (by kernel_rfl) (m_weak ?_ ?_ ?_ ((hW _ _ _ _).1 (st11111 b31 b33 b38 p29 c29)))⟩
        · exact ⟨rfl, rfl, rfl, rfl, rfl, rfl, rfl, rfl, rfl, rfl, trivial⟩
        · (apply ent; (repeat constructor); done)
        · (apply ent; (repeat constructor); done)
    have st11110 : ∀ (b26 : Nat) (b31 : Nat) (b33 : Nat) (b38 : Nat), W 7 #[true, true, true, false, true, true, false, true, true, true, false, true, true, false, false, true, true, true, true, false, false] [(6, .pointer (some ⟨b6, 0, none⟩)), (28, .slice pr L.length cr), (30, .agg #[.int .i64 (Rl.kind (r) : Nat), .int .u8 (Rl.byte (r) : Nat), .int .i64 (Rl.left (r) : Nat), .int .i64 (Rl.right (r) : Nat), .int .i64 (Rl.times (r) : Nat)]), (35, .slice pl L.length cl), (37, .int .i64 (ln : Nat)), (44, .int .i64 ((L.length + 1 : Nat) : Int)), (26, .slice (some ⟨b26, 0, none⟩) 0 0), (31, .slice (some ⟨b31, 0, none⟩) 1 1), (33, .slice (some ⟨b33, 0, none⟩) 0 0), (38, .slice (some ⟨b38, 0, none⟩) 1 1)] [cells b3 [.slice pr L.length cr, .slice pl L.length cl] 35, cells b4 [.int .i64 (Rl.kind (r) : Nat), .int .u8 (Rl.byte (r) : Nat), .int .i64 (Rl.left (r) : Nat), .int .i64 (Rl.right (r) : Nat), .int .i64 (Rl.times (r) : Nat)] 42, sl pr cr 42 5 L.length (rusC L), sl pl cl 3 1 L.length (lnC L L.length), sl (some ⟨b26, 0, none⟩) 0 42 5 0 [], cells b31 (rlC r) 42, sl (some ⟨b33, 0, none⟩) 0 3 1 0 [], cells b38 [.int .i64 (ln : Nat)] 3, cells b6 [.slice none 0 0, .slice none 0 0] 35, R] := by
      intro b26 b31 b33 b38
      refine (hW _ _ _ _).2 ?_
      refine m_any [3] (by kernel_rfl) (by simp) (fun i hi => ?_)
      obtain rfl : i = 3 := by simpa using hi
      · refine ⟨_, _, _, _, _, rfl, rfl, ?_⟩
        apply ld_append_slz (hE.t rfl) (hE.t rfl) rfl rfl rfl
        · ((repeat constructor); done)
        · ((repeat constructor); done)
        · exact rusC_one L
        · omega
        · (unfold maxLen; omega)
        intro p29 c29 m29 x29 hm29 hx29
        obtain rfl : m29 = L.length := by omega
        obtain rfl : x29 = rusC L := by rw [hx29]; rfl
        refine ⟨by (apply ent; (repeat constructor); done), m_list (l := #[true, true, true, true, true, true, false, true, true, true, false, true, true, false, false, true, true, true, true, false, false]) (by kernel_rfl) (m_weak ?_ ?_ ?_ ((hW _ _ _ _).1 (st11111 b31 b33 b38 p29 c29)))⟩
        · exact ⟨rfl, rfl, rfl, rfl, rfl, rfl, rfl, rfl, rfl, rfl, trivial⟩
        · (apply ent; (repeat constructor); done)
        · (apply ent; (repeat constructor); done)
    have st01110 : ∀ (b31 : Nat) (b33 : Nat) (b38 : Nat), W 8 #[false, true, true, false, true, true, false, true, true, true, false, true, true, false, false, true, true, true, true, false, false] [(6, .pointer (some ⟨b6, 0, none⟩)), (28, .slice pr L.length cr), (30, .agg #[.int .i64 (Rl.kind (r) : Nat), .int .u8 (Rl.byte (r) : Nat), .int .i64 (Rl.left (r) : Nat), .int .i64 (Rl.right (r) : Nat), .int .i64 (Rl.times (r) : Nat)]), (35, .slice pl L.length cl), (37, .int .i64 (ln : Nat)), (44, .int .i64 ((L.length + 1 : Nat) : Int)), (31, .slice (some ⟨b31, 0, none⟩) 1 1), (33, .slice (some ⟨b33, 0, none⟩) 0 0), (38, .slice (some ⟨b38, 0, none⟩) 1 1)] [cells b3 [.slice pr L.length cr, .slice pl L.length cl] 35, cells b4 [.int .i64 (Rl.kind (r) : Nat), .int .u8 (Rl.byte (r) : Nat), .int .i64 (Rl.left (r) : Nat), .int .i64 (Rl.right (r) : Nat), .int .i64 (Rl.times (r) : Nat)] 42, sl pr cr 42 5 L.length (rusC L), sl pl cl 3 1 L.length (lnC L L.length), cells b31 (rlC r) 42, sl (some ⟨b33, 0, none⟩) 0 3 1 0 [], cells b38 [.int .i64 (ln : Nat)] 3, cells b6 [.slice none 0 0, .slice none 0 0] 35, R] := by
      intro b31 b33 b38
      refine (hW _ _ _ _).2 ?_
      refine m_any [0] (by kernel_rfl) (by simp) (fun i hi => ?_)
      obtain rfl : i = 0 := by simpa using hi
      · refine ⟨_, _, _, _, _, rfl, rfl, ?_⟩
        refine ld_buildSlice0 (hE.t rfl) (fun b26 => ?_)
        refine ⟨by (apply ent; (repeat constructor); done), m_list (l := #[true, true, true, false, true, true, false, true, true, true, false, true, true, false, false, true, true, true, true, false, false]) (by kernel_rfl) (m_weak ?_ ?_ ?_ ((hW _ _ _ _).1 (st11110 b26 b31 b33 b38)))⟩
        · exact ⟨rfl, rfl, rfl, rfl, rfl, rfl, rfl, rfl, rfl, rfl, trivial⟩
        · (apply ent; (repeat constructor); done)
        · (apply ent; (repeat constructor); done)
    have st10011 : ∀ (b38 : Nat) (p29 : Option Addr) (c29 : Nat), W 8 #[true, true, true, true, true, false, false, false, true, true, false, true, true, false, false, true, true, true, true, false, false] [(6, .pointer (some ⟨b6, 0, none⟩)), (28, .slice pr L.length cr), (30, .agg #[.int .i64 (Rl.kind (r) : Nat), .int .u8 (Rl.byte (r) : Nat), .int .i64 (Rl.left (r) : Nat), .int .i64 (Rl.right (r) : Nat), .int .i64 (Rl.times (r) : Nat)]), (35, .slice pl L.length cl), (37, .int .i64 (ln : Nat)), (44, .int .i64 ((L.length + 1 : Nat) : Int)), (38, .slice (some ⟨b38, 0, none⟩) 1 1), (29, .slice p29 L.length c29)] [cells b3 [.slice pr L.length cr, .slice pl L.length cl] 35, cells b4 [.int .i64 (Rl.kind (r) : Nat), .int .u8 (Rl.byte (r) : Nat), .int .i64 (Rl.left (r) : Nat), .int .i64 (Rl.right (r) : Nat), .int .i64 (Rl.times (r) : Nat)] 42, sl pr cr 42 5 L.length (rusC L), sl pl cl 3 1 L.length (lnC L L.length), cells b38 [.int .i64 (ln : Nat)] 3, sl p29 c29 42 5 L.length (rusC L), cells b6 [.slice none 0 0, .slice none 0 0] 35, R] := by
      intro b38 p29 c29
      refine (hW _ _ _ _).2 ?_
      refine m_any [5, 7] (by kernel_rfl) (by simp) (fun i hi => ?_)
      simp only [List.mem_cons, List.not_mem_nil, or_false] at hi
      rcases hi with rfl | rfl
      · refine ⟨_, _, _, _, _, rfl, rfl, ?_⟩
        refine ld_buildSlice (hE.t rfl) (hE.t rfl) rfl rfl rfl (fun b31 => ?_)
        refine ⟨by (apply ent; (repeat constructor); done), m_list (l := #[true, true, true, true, true, true, false, false, true, true, false, true, true, false, false, true, true, true, true, false, false]) (by kernel_rfl) (m_weak ?_ ?_ ?_ ((hW _ _ _ _).1 (st11011 b31 b38 p29 c29)))⟩
        · exact ⟨rfl, rfl, rfl, rfl, rfl, rfl, rfl, rfl, rfl, trivial⟩
        · (apply ent; (repeat constructor); done)
        · (apply ent; (repeat constructor); done)
      · refine ⟨_, _, _, _, _, rfl, rfl, ?_⟩
        refine ld_buildSlice0 (hE.t rfl) (fun b33 => ?_)
        refine ⟨by (apply ent; (repeat constructor); done), m_list (l := #[true, true, true, true, true, false, false, true, true, true, false, true, true, false, false, true, true, true, true, false, false]) (by kernel_rfl) (m_weak ?_ ?_ ?_ ((hW _ _ _ _).1 (st10111 b33 b38 p29 c29)))⟩
        · exact ⟨rfl, rfl, rfl, rfl, rfl, rfl, rfl, rfl, rfl, trivial⟩
        · (apply ent; (repeat constructor); done)
        · (apply ent; (repeat constructor); done)
    have st10101 : ∀ (b33 : Nat) (p29 : Option Addr) (c29 : Nat), W 8 #[true, true, true, true, true, false, false, true, true, true, false, true, false, false, false, true, true, true, true, false, false] [(6, .pointer (some ⟨b6, 0, none⟩)), (28, .slice pr L.length cr), (30, .agg #[.int .i64 (Rl.kind (r) : Nat), .int .u8 (Rl.byte (r) : Nat), .int .i64 (Rl.left (r) : Nat), .int .i64 (Rl.right (r) : Nat), .int .i64 (Rl.times (r) : Nat)]), (35, .slice pl L.length cl), (37, .int .i64 (ln : Nat)), (44, .int .i64 ((L.length + 1 : Nat) : Int)), (33, .slice (some ⟨b33, 0, none⟩) 0 0), (29, .slice p29 L.length c29)] [cells b3 [.slice pr L.length cr, .slice pl L.length cl] 35, cells b4 [.int .i64 (Rl.kind (r) : Nat), .int .u8 (Rl.byte (r) : Nat), .int .i64 (Rl.left (r) : Nat), .int .i64 (Rl.right (r) : Nat), .int .i64 (Rl.times (r) : Nat)] 42, sl pr cr 42 5 L.length (rusC L), sl pl cl 3 1 L.length (lnC L L.length), sl (some ⟨b33, 0, none⟩) 0 3 1 0 [], sl p29 c29 42 5 L.length (rusC L), cells b6 [.slice none 0 0, .slice none 0 0] 35, R] := by
      intro b33 p29 c29
      refine (hW _ _ _ _).2 ?_
      refine m_any [5, 12] (by kernel_rfl) (by simp) (fun i hi => ?_)
      simp only [List.mem_cons, List.not_mem_nil, or_false] at hi
      rcases hi with rfl | rfl
      · refine ⟨_, _, _, _, _, rfl, rfl, ?_⟩
        refine ld_buildSlice (hE.t rfl) (hE.t rfl) rfl rfl rfl (fun b31 => ?_)
        refine ⟨by (apply ent; (repeat constructor); done), m_list (l := #[true, true, true, true, true, true, false, true, true, true, false, true, false, false, false, true, true, true, true, false, false]) (by kernel_rfl) (m_weak ?_ ?_ ?_ ((hW _ _ _ _).1 (st11101 b31 b33 p29 c29)))⟩
        · exact ⟨rfl, rfl, rfl, rfl, rfl, rfl, rfl, rfl, rfl, trivial⟩
        · (apply ent; (repeat constructor); done)
        · (apply ent; (repeat constructor); done)
      · refine ⟨_, _, _, _, _, rfl, rfl, ?_⟩
        refine ld_buildSlice (hE.t rfl) (hE.t rfl) rfl rfl rfl (fun b38 => ?_)
        refine ⟨by (apply ent; (repeat constructor); done), m_list (l := #[true, true, true, true, true, false, false, true, true, true, false, true, true, false, false, true, true, true, true, false, false]) (by kernel_rfl) (m_weak ?_ ?_ ?_ ((hW _ _ _ _).1 (st10111 b33 b38 p29 c29)))⟩
        · exact ⟨rfl, rfl, rfl, rfl, rfl, rfl, rfl, rfl, rfl, trivial⟩
        · (apply ent; (repeat constructor); done)
        · (apply ent; (repeat constructor); done)
    have st10110 : ∀ (b26 : Nat) (b33 : Nat) (b38 : Nat), W 8 #[true, true, true, false, true, false, false, true, true, true, false, true, true, false, false, true, true, true, true, false, false] [(6, .pointer (some ⟨b6, 0, none⟩)), (28, .slice pr L.length cr), (30, .agg #[.int .i64 (Rl.kind (r) : Nat), .int .u8 (Rl.byte (r) : Nat), .int .i64 (Rl.left (r) : Nat), .int .i64 (Rl.right (r) : Nat), .int .i64 (Rl.times (r) : Nat)]), (35, .slice pl L.length cl), (37, .int .i64 (ln : Nat)), (44, .int .i64 ((L.length + 1 : Nat) : Int)), (26, .slice (some ⟨b26, 0, none⟩) 0 0), (33, .slice (some ⟨b33, 0, none⟩) 0 0), (38, .slice (some ⟨b38, 0, none⟩) 1 1)] [cells b3 [.slice pr L.length cr, .slice pl L.length cl] 35, cells b4 [.int .i64 (Rl.kind (r) : Nat), .int .u8 (Rl.byte (r) : Nat), .int .i64 (Rl.left (r) : Nat), .int .i64 (Rl.right (r) : Nat), .int .i64 (Rl.times (r) : Nat)] 42, sl pr cr 42 5 L.length (rusC L), sl pl cl 3 1 L.length (lnC L L.length), sl (some ⟨b26, 0, none⟩) 0 42 5 0 [], sl (some ⟨b33, 0, none⟩) 0 3 1 0 [], cells b38 [.int .i64 (ln : Nat)] 3, cells b6 [.slice none 0 0, .slice none 0 0] 35, R] := by
      intro b26 b33 b38
      refine (hW _ _ _ _).2 ?_
      refine m_any [3, 5] (by kernel_rfl) (by simp) (fun i hi => ?_)
      simp only [List.mem_cons, List.not_mem_nil, or_false] at hi
      rcases hi with rfl | rfl
      · refine ⟨_, _, _, _, _, rfl, rfl, ?_⟩
        apply ld_append_slz (hE.t rfl) (hE.t rfl) rfl rfl rfl
        · ((repeat constructor); done)
        · ((repeat constructor); done)
        · exact rusC_one L
        · omega
        · (unfold maxLen; omega)
        intro p29 c29 m29 x29 hm29 hx29
        obtain rfl : m29 = L.length := by omega
        obtain rfl : x29 = rusC L := by rw [hx29]; rfl
        refine ⟨by (apply ent; (repeat constructor); done), m_list (l := #[true, true, true, true, true, false, false, true, true, true, false, true, true, false, false, true, true, true, true, false, false]) (by kernel_rfl) (m_weak ?_ ?_ ?_ ((hW _ _ _ _).1 (st10111 b33 b38 p29 c29)))⟩
        · exact ⟨rfl, rfl, rfl, rfl, rfl, rfl, rfl, rfl, rfl, trivial⟩
        · (apply ent; (repeat constructor); done)
        · (apply ent; (repeat constructor); done)
      · refine ⟨_, _, _, _, _, rfl, rfl, ?_⟩
        refine ld_buildSlice (hE.t rfl) (hE.t rfl) rfl rfl rfl (fun b31 => ?_)
        refine ⟨by (apply ent; (repeat constructor); done), m_list (l := #[true, true, true, false, true, true, false, true, true, true, false, true, true, false, false, true, true, true, true, false, false]) (by kernel_rfl) (m_weak ?_ ?_ ?_ ((hW _ _ _ _).1 (st11110 b26 b31 b33 b38)))⟩
        · exact ⟨rfl, rfl, rfl, rfl, rfl, rfl, rfl, rfl, rfl, rfl, trivial⟩
        · (apply ent; (repeat constructor); done)
        · (apply ent; (repeat constructor); done)
    have st11001 : ∀ (b31 : Nat) (p29 : Option Addr) (c29 : Nat), W 8 #[true, true, true, true, true, true, false, false, true, true, false, true, false, false, false, true, true, true, true, false, false] [(6, .pointer (some ⟨b6, 0, none⟩)), (28, .slice pr L.length cr), (30, .agg #[.int .i64 (Rl.kind (r) : Nat), .int .u8 (Rl.byte (r) : Nat), .int .i64 (Rl.left (r) : Nat), .int .i64 (Rl.right (r) : Nat), .int .i64 (Rl.times (r) : Nat)]), (35, .slice pl L.length cl), (37, .int .i64 (ln : Nat)), (44, .int .i64 ((L.length + 1 : Nat) : Int)), (31, .slice (some ⟨b31, 0, none⟩) 1 1), (29, .slice p29 L.length c29)] [cells b3 [.slice pr L.length cr, .slice pl L.length cl] 35, cells b4 [.int .i64 (Rl.kind (r) : Nat), .int .u8 (Rl.byte (r) : Nat), .int .i64 (Rl.left (r) : Nat), .int .i64 (Rl.right (r) : Nat), .int .i64 (Rl.times (r) : Nat)] 42, sl pr cr 42 5 L.length (rusC L), sl pl cl 3 1 L.length (lnC L L.length), cells b31 (rlC r) 42, sl p29 c29 42 5 L.length (rusC L), cells b6 [.slice none 0 0, .slice none 0 0] 35, R] := by
      intro b31 p29 c29
      refine (hW _ _ _ _).2 ?_
      refine m_any [6, 7, 12] (by kernel_rfl) (by simp) (fun i hi => ?_)
      simp only [List.mem_cons, List.not_mem_nil, or_false] at hi
      rcases hi with rfl | rfl | rfl
      · refine ⟨_, _, _, _, _, rfl, rfl, ?_⟩
        apply ld_append (hE.t rfl) (hE.t rfl) rfl rfl rfl
        · ((repeat constructor); done)
        · ((repeat constructor); done)
        · rfl
        · rfl
        · omega
        · omega
        · (unfold maxLen; omega)
        intro g32 c32 m32 x32 hm32 hx32
        subst hm32 hx32
        refine ⟨by (apply ent; (repeat constructor); done), m_list (l := #[true, true, true, true, true, true, true, false, true, true, false, true, false, false, false, true, true, true, true, false, false]) (by kernel_rfl) (m_weak ?_ ?_ ?_ ((hW _ _ _ _).1 (st11002 (some ⟨g32, 0, none⟩) c32)))⟩
        · exact ⟨rfl, rfl, rfl, rfl, rfl, rfl, rfl, trivial⟩
        · (apply ent; (repeat constructor); done)
        · (apply ent; (repeat constructor); done)
      · refine ⟨_, _, _, _, _, rfl, rfl, ?_⟩
        refine ld_buildSlice0 (hE.t rfl) (fun b33 => ?_)
        refine ⟨by (apply ent; (repeat constructor); done), m_list (l := #[true, true, true, true, true, true, false, true, true, true, false, true, false, false, false, true, true, true, true, false, false]) (by kernel_rfl) (m_weak ?_ ?_ ?_ ((hW _ _ _ _).1 (st11101 b31 b33 p29 c29)))⟩
        · exact ⟨rfl, rfl, rfl, rfl, rfl, rfl, rfl, rfl, rfl, trivial⟩
        · (apply ent; (repeat constructor); done)
        · (apply ent; (repeat constructor); done)
      · refine ⟨_, _, _, _, _, rfl, rfl, ?_⟩
        refine ld_buildSlice (hE.t rfl) (hE.t rfl) rfl rfl rfl (fun b38 => ?_)
        refine ⟨by (apply ent; (repeat constructor); done), m_list (l := #[true, true, true, true, true, true, false, false, true, true, false, true, true, false, false, true, true, true, true, false, false]) (by kernel_rfl) (m_weak ?_ ?_ ?_ ((hW _ _ _ _).1 (st11011 b31 b38 p29 c29)))⟩
        · exact ⟨rfl, rfl, rfl, rfl, rfl, rfl, rfl, rfl, rfl, trivial⟩
        · (apply ent; (repeat constructor); done)
        · (apply ent; (repeat constructor); done)
    have st11010 : ∀ (b26 : Nat) (b31 : Nat) (b38 : Nat), W 8 #[true, true, true, false, true, true, false, false, true, true, false, true, true, false, false, true, true, true, true, false, false] [(6, .pointer (some ⟨b6, 0, none⟩)), (28, .slice pr L.length cr), (30, .agg #[.int .i64 (Rl.kind (r) : Nat), .int .u8 (Rl.byte (r) : Nat), .int .i64 (Rl.left (r) : Nat), .int .i64 (Rl.right (r) : Nat), .int .i64 (Rl.times (r) : Nat)]), (35, .slice pl L.length cl), (37, .int .i64 (ln : Nat)), (44, .int .i64 ((L.length + 1 : Nat) : Int)), (26, .slice (some ⟨b26, 0, none⟩) 0 0), (31, .slice (some ⟨b31, 0, none⟩) 1 1), (38, .slice (some ⟨b38, 0, none⟩) 1 1)] [cells b3 [.slice pr L.length cr, .slice pl L.length cl] 35, cells b4 [.int .i64 (Rl.kind (r) : Nat), .int .u8 (Rl.byte (r) : Nat), .int .i64 (Rl.left (r) : Nat), .int .i64 (Rl.right (r) : Nat), .int .i64 (Rl.times (r) : Nat)] 42, sl pr cr 42 5 L.length (rusC L), sl pl cl 3 1 L.length (lnC L L.length), sl (some ⟨b26, 0, none⟩) 0 42 5 0 [], cells b31 (rlC r) 42, cells b38 [.int .i64 (ln : Nat)] 3, cells b6 [.slice none 0 0, .slice none 0 0] 35, R] := by
      intro b26 b31 b38
      refine (hW _ _ _ _).2 ?_
      refine m_any [3, 7] (by kernel_rfl) (by simp) (fun i hi => ?_)
      simp only [List.mem_cons, List.not_mem_nil, or_false] at hi
      rcases hi with rfl | rfl
      · refine ⟨_, _, _, _, _, rfl, rfl, ?_⟩
        apply ld_append_slz (hE.t rfl) (hE.t rfl) rfl rfl rfl
        · ((repeat constructor); done)
        · ((repeat constructor); done)
        · exact rusC_one L
        · omega
        · (unfold maxLen; omega)
        intro p29 c29 m29 x29 hm29 hx29
        obtain rfl : m29 = L.length := by omega
        obtain rfl : x29 = rusC L := by rw [hx29]; rfl
        refine ⟨by (apply ent; (repeat constructor); done), m_list (l := #[true, true, true, true, true, true, false, false, true, true, false, true, true, false, false, true, true, true, true, false, false]) (by kernel_rfl) (m_weak ?_ ?_ ?_ ((hW _ _ _ _).1 (st11011 b31 b38 p29 c29)))⟩
        · exact ⟨rfl, rfl, rfl, rfl, rfl, rfl, rfl, rfl, rfl, trivial⟩
        · (apply ent; (repeat constructor); done)
        · (apply ent; (repeat constructor); done)
      · refine ⟨_, _, _, _, _, rfl, rfl, ?_⟩
        refine ld_buildSlice0 (hE.t rfl) (fun b33 => ?_)
        refine ⟨by (apply ent; (repeat constructor); done), m_list (l := #[true, true, true, false, true, true, false, true, true, true, false, true, true, false, false, true, true, true, true, false, false]) (by kernel_rfl) (m_weak ?_ ?_ ?_ ((hW _ _ _ _).1 (st11110 b26 b31 b33 b38)))⟩
        · exact ⟨rfl, rfl, rfl, rfl, rfl, rfl, rfl, rfl, rfl, rfl, trivial⟩
        · (apply ent; (repeat constructor); done)
        · (apply ent; (repeat constructor); done)
    have st11100 : ∀ (b26 : Nat) (b31 : Nat) (b33 : Nat), W 8 #[true, true, true, false, true, true, false, true, true, true, false, true, false, false, false, true, true, true, true, false, false] [(6, .pointer (some ⟨b6, 0, none⟩)), (28, .slice pr L.length cr), (30, .agg #[.int .i64 (Rl.kind (r) : Nat), .int .u8 (Rl.byte (r) : Nat), .int .i64 (Rl.left (r) : Nat), .int .i64 (Rl.right (r) : Nat), .int .i64 (Rl.times (r) : Nat)]), (35, .slice pl L.length cl), (37, .int .i64 (ln : Nat)), (44, .int .i64 ((L.length + 1 : Nat) : Int)), (26, .slice (some ⟨b26, 0, none⟩) 0 0), (31, .slice (some ⟨b31, 0, none⟩) 1 1), (33, .slice (some ⟨b33, 0, none⟩) 0 0)] [cells b3 [.slice pr L.length cr, .slice pl L.length cl] 35, cells b4 [.int .i64 (Rl.kind (r) : Nat), .int .u8 (Rl.byte (r) : Nat), .int .i64 (Rl.left (r) : Nat), .int .i64 (Rl.right (r) : Nat), .int .i64 (Rl.times (r) : Nat)] 42, sl pr cr 42 5 L.length (rusC L), sl pl cl 3 1 L.length (lnC L L.length), sl (some ⟨b26, 0, none⟩) 0 42 5 0 [], cells b31 (rlC r) 42, sl (some ⟨b33, 0, none⟩) 0 3 1 0 [], cells b6 [.slice none 0 0, .slice none 0 0] 35, R] := by
      intro b26 b31 b33
      refine (hW _ _ _ _).2 ?_
      refine m_any [3, 12] (by kernel_rfl) (by simp) (fun i hi => ?_)
      simp only [List.mem_cons, List.not_mem_nil, or_false] at hi
      rcases hi with rfl | rfl
      · refine ⟨_, _, _, _, _, rfl, rfl, ?_⟩
        apply ld_append_slz (hE.t rfl) (hE.t rfl) rfl rfl rfl
        · ((repeat constructor); done)
        · ((repeat constructor); done)
        · exact rusC_one L
        · omega
        · (unfold maxLen; omega)
        intro p29 c29 m29 x29 hm29 hx29
        obtain rfl : m29 = L.length := by omega
        obtain rfl : x29 = rusC L := by rw [hx29]; rfl
        refine ⟨by (apply ent; (repeat constructor); done), m_list (l := #[true, true, true, true, true, true, false, true, true, true, false, true, false, false, false, true, true, true, true, false, false]) (by kernel_rfl) (m_weak ?_ ?_ ?_ ((hW _ _ _ _).1 (st11101 b31 b33 p29 c29)))⟩
        · exact ⟨rfl, rfl, rfl, rfl, rfl, rfl, rfl, rfl, rfl, trivial⟩
        · (apply ent; (repeat constructor); done)
        · (apply ent; (repeat constructor); done)
      · refine ⟨_, _, _, _, _, rfl, rfl, ?_⟩
        refine ld_buildSlice (hE.t rfl) (hE.t rfl) rfl rfl rfl (fun b38 => ?_)
        refine ⟨by (apply ent; (repeat constructor); done), m_list (l := #[true, true, true, false, true, true, false, true, true, true, false, true, true, false, false, true, true, true, true, false, false]) (by kernel_rfl) (m_weak ?_ ?_ ?_ ((hW _ _ _ _).1 (st11110 b26 b31 b33 b38)))⟩
        · exact ⟨rfl, rfl, rfl, rfl, rfl, rfl, rfl, rfl, rfl, rfl, trivial⟩
        · (apply ent; (repeat constructor); done)
        · (apply ent; (repeat constructor); done)
    have st00110 : ∀ (b33 : Nat) (b38 : Nat), W 9 #[false, true, true, false, true, false, false, true, true, true, false, true, true, false, false, true, true, true, true, false, false] [(6, .pointer (some ⟨b6, 0, none⟩)), (28, .slice pr L.length cr), (30, .agg #[.int .i64 (Rl.kind (r) : Nat), .int .u8 (Rl.byte (r) : Nat), .int .i64 (Rl.left (r) : Nat), .int .i64 (Rl.right (r) : Nat), .int .i64 (Rl.times (r) : Nat)]), (35, .slice pl L.length cl), (37, .int .i64 (ln : Nat)), (44, .int .i64 ((L.length + 1 : Nat) : Int)), (33, .slice (some ⟨b33, 0, none⟩) 0 0), (38, .slice (some ⟨b38, 0, none⟩) 1 1)] [cells b3 [.slice pr L.length cr, .slice pl L.length cl] 35, cells b4 [.int .i64 (Rl.kind (r) : Nat), .int .u8 (Rl.byte (r) : Nat), .int .i64 (Rl.left (r) : Nat), .int .i64 (Rl.right (r) : Nat), .int .i64 (Rl.times (r) : Nat)] 42, sl pr cr 42 5 L.length (rusC L), sl pl cl 3 1 L.length (lnC L L.length), sl (some ⟨b33, 0, none⟩) 0 3 1 0 [], cells b38 [.int .i64 (ln : Nat)] 3, cells b6 [.slice none 0 0, .slice none 0 0] 35, R] := by
      intro b33 b38
      refine (hW _ _ _ _).2 ?_
      refine m_any [0, 5] (by kernel_rfl) (by simp) (fun i hi => ?_)
      simp only [List.mem_cons, List.not_mem_nil, or_false] at hi
      rcases hi with rfl | rfl
      · refine ⟨_, _, _, _, _, rfl, rfl, ?_⟩
        refine ld_buildSlice0 (hE.t rfl) (fun b26 => ?_)
        refine ⟨by (apply ent; (repeat constructor); done), m_list (l := #[true, true, true, false, true, false, false, true, true, true, false, true, true, false, false, true, true, true, true, false, false]) (by kernel_rfl) (m_weak ?_ ?_ ?_ ((hW _ _ _ _).1 (st10110 b26 b33 b38)))⟩
        · exact ⟨rfl, rfl, rfl, rfl, rfl, rfl, rfl, rfl, rfl, trivial⟩
        · (apply ent; (repeat constructor); done)
        · (apply ent; (repeat constructor); done)
      · refine ⟨_, _, _, _, _, rfl, rfl, ?_⟩
        refine ld_buildSlice (hE.t rfl) (hE.t rfl) rfl rfl rfl (fun b31 => ?_)
        refine ⟨by (apply ent; (repeat constructor); done), m_list (l := #[false, true, true, false, true, true, false, true, true, true, false, true, true, false, false, true, true, true, true, false, false]) (by kernel_rfl) (m_weak ?_ ?_ ?_ ((hW _ _ _ _).1 (st01110 b31 b33 b38)))⟩
        · exact ⟨rfl, rfl, rfl, rfl, rfl, rfl, rfl, rfl, rfl, trivial⟩
        · (apply ent; (repeat constructor); done)
        · (apply ent; (repeat constructor); done)
    have st01010 : ∀ (b31 : Nat) (b38 : Nat), W 9 #[false, true, true, false, true, true, false, false, true, true, false, true, true, false, false, true, true, true, true, false, false] [(6, .pointer (some ⟨b6, 0, none⟩)), (28, .slice pr L.length cr), (30, .agg #[.int .i64 (Rl.kind (r) : Nat), .int .u8 (Rl.byte (r) : Nat), .int .i64 (Rl.left (r) : Nat), .int .i64 (Rl.right (r) : Nat), .int .i64 (Rl.times (r) : Nat)]), (35, .slice pl L.length cl), (37, .int .i64 (ln : Nat)), (44, .int .i64 ((L.length + 1 : Nat) : Int)), (31, .slice (some ⟨b31, 0, none⟩) 1 1), (38, .slice (some ⟨b38, 0, none⟩) 1 1)] [cells b3 [.slice pr L.length cr, .slice pl L.length cl] 35, cells b4 [.int .i64 (Rl.kind (r) : Nat), .int .u8 (Rl.byte (r) : Nat), .int .i64 (Rl.left (r) : Nat), .int .i64 (Rl.right (r) : Nat), .int .i64 (Rl.times (r) : Nat)] 42, sl pr cr 42 5 L.length (rusC L), sl pl cl 3 1 L.length (lnC L L.length), cells b31 (rlC r) 42, cells b38 [.int .i64 (ln : Nat)] 3, cells b6 [.slice none 0 0, .slice none 0 0] 35, R] := by
      intro b31 b38
      refine (hW _ _ _ _).2 ?_
      refine m_any [0, 7] (by kernel_rfl) (by simp) (fun i hi => ?_)
      simp only [List.mem_cons, List.not_mem_nil, or_false] at hi
      rcases hi with rfl | rfl
      · refine ⟨_, _, _, _, _, rfl, rfl, ?_⟩
        refine ld_buildSlice0 (hE.t rfl) (fun b26 => ?_)
        refine ⟨by (apply ent; (repeat constructor); done), m_list (l := #[true, true, true, false, true, true, false, false, true, true, false, true, true, false, false, true, true, true, true, false, false]) (by kernel_rfl) (m_weak ?_ ?_ ?_ ((hW _ _ _ _).1 (st11010 b26 b31 b38)))⟩
        · exact ⟨rfl, rfl, rfl, rfl, rfl, rfl, rfl, rfl, rfl, trivial⟩
        · (apply ent; (repeat constructor); done)
        · (apply ent; (repeat constructor); done)
      · refine ⟨_, _, _, _, _, rfl, rfl, ?_⟩
        refine ld_buildSlice0 (hE.t rfl) (fun b33 => ?_)
        refine ⟨by (apply ent; (repeat constructor); done), m_list (l := #[false, true, true, false, true, true, false, true, true, true, false, true, true, false, false, true, true, true, true, false, false]) (by kernel_rfl) (m_weak ?_ ?_ ?_ ((hW _ _ _ _).1 (st01110 b31 b33 b38)))⟩
        · exact ⟨rfl, rfl, rfl, rfl, rfl, rfl, rfl, rfl, rfl, trivial⟩
        · (apply ent; (repeat constructor); done)
        · (apply ent; (repeat constructor); done)
    have st01100 : ∀ (b31 : Nat) (b33 : Nat), W 9 #[false, true, true, false, true, true, false, true, true, true, false, true, false, false, false, true, true, true, true, false, false] [(6, .pointer (some ⟨b6, 0, none⟩)), (28, .slice pr L.length cr), (30, .agg #[.int .i64 (Rl.kind (r) : Nat), .int .u8 (Rl.byte (r) : Nat), .int .i64 (Rl.left (r) : Nat), .int .i64 (Rl.right (r) : Nat), .int .i64 (Rl.times (r) : Nat)]), (35, .slice pl L.length cl), (37, .int .i64 (ln : Nat)), (44, .int .i64 ((L.length + 1 : Nat) : Int)), (31, .slice (some ⟨b31, 0, none⟩) 1 1), (33, .slice (some ⟨b33, 0, none⟩) 0 0)] [cells b3 [.slice pr L.length cr, .slice pl L.length cl] 35, cells b4 [.int .i64 (Rl.kind (r) : Nat), .int .u8 (Rl.byte (r) : Nat), .int .i64 (Rl.left (r) : Nat), .int .i64 (Rl.right (r) : Nat), .int .i64 (Rl.times (r) : Nat)] 42, sl pr cr 42 5 L.length (rusC L), sl pl cl 3 1 L.length (lnC L L.length), cells b31 (rlC r) 42, sl (some ⟨b33, 0, none⟩) 0 3 1 0 [], cells b6 [.slice none 0 0, .slice none 0 0] 35, R] := by
      intro b31 b33
      refine (hW _ _ _ _).2 ?_
      refine m_any [0, 12] (by kernel_rfl) (by simp) (fun i hi => ?_)
      simp only [List.mem_cons, List.not_mem_nil, or_false] at hi
      rcases hi with rfl | rfl
      · refine ⟨_, _, _, _, _, rfl, rfl, ?_⟩
        refine ld_buildSlice0 (hE.t rfl) (fun b26 => ?_)
        refine ⟨by (apply ent; (repeat constructor); done), m_list (l := #[true, true, true, false, true, true, false, true, true, true, false, true, false, false, false, true, true, true, true, false, false]) (by kernel_rfl) (m_weak ?_ ?_ ?_ ((hW _ _ _ _).1 (st11100 b26 b31 b33)))⟩
        · exact ⟨rfl, rfl, rfl, rfl, rfl, rfl, rfl, rfl, rfl, trivial⟩
        · (apply ent; (repeat constructor); done)
        · (apply ent; (repeat constructor); done)
      · refine ⟨_, _, _, _, _, rfl, rfl, ?_⟩
        refine ld_buildSlice (hE.t rfl) (hE.t rfl) rfl rfl rfl (fun b38 => ?_)
        refine ⟨by (apply ent; (repeat constructor); done), m_list (l := #[false, true, true, false, true, true, false, true, true, true, false, true, true, false, false, true, true, true, true, false, false]) (by kernel_rfl) (m_weak ?_ ?_ ?_ ((hW _ _ _ _).1 (st01110 b31 b33 b38)))⟩
        · exact ⟨rfl, rfl, rfl, rfl, rfl, rfl, rfl, rfl, rfl, trivial⟩
        · (apply ent; (repeat constructor); done)
        · (apply ent; (repeat constructor); done)
    have st10001 : ∀ (p29 : Option Addr) (c29 : Nat), W 9 #[true, true, true, true, true, false, false, false, true, true, false, true, false, false, false, true, true, true, true, false, false] [(6, .pointer (some ⟨b6, 0, none⟩)), (28, .slice pr L.length cr), (30, .agg #[.int .i64 (Rl.kind (r) : Nat), .int .u8 (Rl.byte (r) : Nat), .int .i64 (Rl.left (r) : Nat), .int .i64 (Rl.right (r) : Nat), .int .i64 (Rl.times (r) : Nat)]), (35, .slice pl L.length cl), (37, .int .i64 (ln : Nat)), (44, .int .i64 ((L.length + 1 : Nat) : Int)), (29, .slice p29 L.length c29)] [cells b3 [.slice pr L.length cr, .slice pl L.length cl] 35, cells b4 [.int .i64 (Rl.kind (r) : Nat), .int .u8 (Rl.byte (r) : Nat), .int .i64 (Rl.left (r) : Nat), .int .i64 (Rl.right (r) : Nat), .int .i64 (Rl.times (r) : Nat)] 42, sl pr cr 42 5 L.length (rusC L), sl pl cl 3 1 L.length (lnC L L.length), sl p29 c29 42 5 L.length (rusC L), cells b6 [.slice none 0 0, .slice none 0 0] 35, R] := by
      intro p29 c29
      refine (hW _ _ _ _).2 ?_
      refine m_any [5, 7, 12] (by kernel_rfl) (by simp) (fun i hi => ?_)
      simp only [List.mem_cons, List.not_mem_nil, or_false] at hi
      rcases hi with rfl | rfl | rfl
      · refine ⟨_, _, _, _, _, rfl, rfl, ?_⟩
        refine ld_buildSlice (hE.t rfl) (hE.t rfl) rfl rfl rfl (fun b31 => ?_)
        refine ⟨by (apply ent; (repeat constructor); done), m_list (l := #[true, true, true, true, true, true, false, false, true, true, false, true, false, false, false, true, true, true, true, false, false]) (by kernel_rfl) (m_weak ?_ ?_ ?_ ((hW _ _ _ _).1 (st11001 b31 p29 c29)))⟩
        · exact ⟨rfl, rfl, rfl, rfl, rfl, rfl, rfl, rfl, trivial⟩
        · (apply ent; (repeat constructor); done)
        · (apply ent; (repeat constructor); done)
      · refine ⟨_, _, _, _, _, rfl, rfl, ?_⟩
        refine ld_buildSlice0 (hE.t rfl) (fun b33 => ?_)
        refine ⟨by (apply ent; (repeat constructor); done), m_list (l := #[true, true, true, true, true, false, false, true, true, true, false, true, false, false, false, true, true, true, true, false, false]) (by kernel_rfl) (m_weak ?_ ?_ ?_ ((hW _ _ _ _).1 (st10101 b33 p29 c29)))⟩
        · exact ⟨rfl, rfl, rfl, rfl, rfl, rfl, rfl, rfl, trivial⟩
        · (apply ent; (repeat constructor); done)
        · (apply ent; (repeat constructor); done)
      · refine ⟨_, _, _, _, _, rfl, rfl, ?_⟩
        refine ld_buildSlice (hE.t rfl) (hE.t rfl) rfl rfl rfl (fun b38 => ?_)
        refine ⟨by (apply ent; (repeat constructor); done), m_list (l := #[true, true, true, true, true, false, false, false, true, true, false, true, true, false, false, true, true, true, true, false, false]) (by kernel_rfl) (m_weak ?_ ?_ ?_ ((hW _ _ _ _).1 (st10011 b38 p29 c29)))⟩
        · exact ⟨rfl, rfl, rfl, rfl, rfl, rfl, rfl, rfl, trivial⟩
        · (apply ent; (repeat constructor); done)
        · (apply ent; (repeat constructor); done)
    have st10010 : ∀ (b26 : Nat) (b38 : Nat), W 9 #[true, true, true, false, true, false, false, false, true, true, false, true, true, false, false, true, true, true, true, false, false] [(6, .pointer (some ⟨b6, 0, none⟩)), (28, .slice pr L.length cr), (30, .agg #[.int .i64 (Rl.kind (r) : Nat), .int .u8 (Rl.byte (r) : Nat), .int .i64 (Rl.left (r) : Nat), .int .i64 (Rl.right (r) : Nat), .int .i64 (Rl.times (r) : Nat)]), (35, .slice pl L.length cl), (37, .int .i64 (ln : Nat)), (44, .int .i64 ((L.length + 1 : Nat) : Int)), (26, .slice (some ⟨b26, 0, none⟩) 0 0), (38, .slice (some ⟨b38, 0, none⟩) 1 1)] [cells b3 [.slice pr L.length cr, .slice pl L.length cl] 35, cells b4 [.int .i64 (Rl.kind (r) : Nat), .int .u8 (Rl.byte (r) : Nat), .int .i64 (Rl.left (r) : Nat), .int .i64 (Rl.right (r) : Nat), .int .i64 (Rl.times (r) : Nat)] 42, sl pr cr 42 5 L.length (rusC L), sl pl cl 3 1 L.length (lnC L L.length), sl (some ⟨b26, 0, none⟩) 0 42 5 0 [], cells b38 [.int .i64 (ln : Nat)] 3, cells b6 [.slice none 0 0, .slice none 0 0] 35, R] := by
      intro b26 b38
      refine (hW _ _ _ _).2 ?_
      refine m_any [3, 5, 7] (by kernel_rfl) (by simp) (fun i hi => ?_)
      simp only [List.mem_cons, List.not_mem_nil, or_false] at hi
      rcases hi with rfl | rfl | rfl
      · refine ⟨_, _, _, _, _, rfl, rfl, ?_⟩
        apply ld_append_slz (hE.t rfl) (hE.t rfl) rfl rfl rfl
        · ((repeat constructor); done)
        · ((repeat constructor); done)
        · exact rusC_one L
        · omega
        · (unfold maxLen; omega)
        intro p29 c29 m29 x29 hm29 hx29
        obtain rfl : m29 = L.length := by omega
        obtain rfl : x29 = rusC L := by rw [hx29]; rfl
        refine ⟨by (apply ent; (repeat constructor); done), m_list (l := #[true, true, true, true, true, false, false, false, true, true, false, true, true, false, false, true, true, true, true, false, false]) (by kernel_rfl) (m_weak ?_ ?_ ?_ ((hW _ _ _ _).1 (st10011 b38 p29 c29)))⟩
        · exact ⟨rfl, rfl, rfl, rfl, rfl, rfl, rfl, rfl, trivial⟩
        · (apply ent; (repeat constructor); done)
        · (apply ent; (repeat constructor); done)
      · refine ⟨_, _, _, _, _, rfl, rfl, ?_⟩
        refine ld_buildSlice (hE.t rfl) (hE.t rfl) rfl rfl rfl (fun b31 => ?_)
        refine ⟨by (apply ent; (repeat constructor); done), m_list (l := #[true, true, true, false, true, true, false, false, true, true, false, true, true, false, false, true, true, true, true, false, false]) (by kernel_rfl) (m_weak ?_ ?_ ?_ ((hW _ _ _ _).1 (st11010 b26 b31 b38)))⟩
        · exact ⟨rfl, rfl, rfl, rfl, rfl, rfl, rfl, rfl, rfl, trivial⟩
        · (apply ent; (repeat constructor); done)
        · (apply ent; (repeat constructor); done)
      · refine ⟨_, _, _, _, _, rfl, rfl, ?_⟩
        refine ld_buildSlice0 (hE.t rfl) (fun b33 => ?_)
        refine ⟨by (apply ent; (repeat constructor); done), m_list (l := #[true, true, true, false, true, false, false, true, true, true, false, true, true, false, false, true, true, true, true, false, false]) (by kernel_rfl) (m_weak ?_ ?_ ?_ ((hW _ _ _ _).1 (st10110 b26 b33 b38)))⟩
        · exact ⟨rfl, rfl, rfl, rfl, rfl, rfl, rfl, rfl, rfl, trivial⟩
        · (apply ent; (repeat constructor); done)
        · (apply ent; (repeat constructor); done)
    have st10100 : ∀ (b26 : Nat) (b33 : Nat), W 9 #[true, true, true, false, true, false, false, true, true, true, false, true, false, false, false, true, true, true, true, false, false] [(6, .pointer (some ⟨b6, 0, none⟩)), (28, .slice pr L.length cr), (30, .agg #[.int .i64 (Rl.kind (r) : Nat), .int .u8 (Rl.byte (r) : Nat), .int .i64 (Rl.left (r) : Nat), .int .i64 (Rl.right (r) : Nat), .int .i64 (Rl.times (r) : Nat)]), (35, .slice pl L.length cl), (37, .int .i64 (ln : Nat)), (44, .int .i64 ((L.length + 1 : Nat) : Int)), (26, .slice (some ⟨b26, 0, none⟩) 0 0), (33, .slice (some ⟨b33, 0, none⟩) 0 0)] [cells b3 [.slice pr L.length cr, .slice pl L.length cl] 35, cells b4 [.int .i64 (Rl.kind (r) : Nat), .int .u8 (Rl.byte (r) : Nat), .int .i64 (Rl.left (r) : Nat), .int .i64 (Rl.right (r) : Nat), .int .i64 (Rl.times (r) : Nat)] 42, sl pr cr 42 5 L.length (rusC L), sl pl cl 3 1 L.length (lnC L L.length), sl (some ⟨b26, 0, none⟩) 0 42 5 0 [], sl (some ⟨b33, 0, none⟩) 0 3 1 0 [], cells b6 [.slice none 0 0, .slice none 0 0] 35, R] := by
      intro b26 b33
      refine (hW _ _ _ _).2 ?_
      refine m_any [3, 5, 12] (by kernel_rfl) (by simp) (fun i hi => ?_)
      simp only [List.mem_cons, List.not_mem_nil, or_false] at hi
      rcases hi with rfl | rfl | rfl
      · refine ⟨_, _, _, _, _, rfl, rfl, ?_⟩
        apply ld_append_slz (hE.t rfl) (hE.t rfl) rfl rfl rfl
        · ((repeat constructor); done)
        · ((repeat constructor); done)
        · exact rusC_one L
        · omega
        · (unfold maxLen; omega)
        intro p29 c29 m29 x29 hm29 hx29
        obtain rfl : m29 = L.length := by omega
        obtain rfl : x29 = rusC L := by rw [hx29]; rfl
        refine ⟨by (apply ent; (repeat constructor); done), m_list (l := #[true, true, true, true, true, false, false, true, true, true, false, true, false, false, false, true, true, true, true, false, false]) (by kernel_rfl) (m_weak ?_ ?_ ?_ ((hW _ _ _ _).1 (st10101 b33 p29 c29)))⟩
        · exact ⟨rfl, rfl, rfl, rfl, rfl, rfl, rfl, rfl, trivial⟩
        · (apply ent; (repeat constructor); done)
        · (apply ent; (repeat constructor); done)
      · refine ⟨_, _, _, _, _, rfl, rfl, ?_⟩
        refine ld_buildSlice (hE.t rfl) (hE.t rfl) rfl rfl rfl (fun b31 => ?_)
        refine ⟨by (apply ent; (repeat constructor); done), m_list (l := #[true, true, true, false, true, true, false, true, true, true, false, true, false, false, false, true, true, true, true, false, false]) (by kernel_rfl) (m_weak ?_ ?_ ?_ ((hW _ _ _ _).1 (st11100 b26 b31 b33)))⟩
        · exact ⟨rfl, rfl, rfl, rfl, rfl, rfl, rfl, rfl, rfl, trivial⟩
        · (apply ent; (repeat constructor); done)
        · (apply ent; (repeat constructor); done)
      · refine ⟨_, _, _, _, _, rfl, rfl, ?_⟩
        refine ld_buildSlice (hE.t rfl) (hE.t rfl) rfl rfl rfl (fun b38 => ?_)
        refine ⟨by (apply ent; (repeat constructor); done), m_list (l := #[true, true, true, false, true, false, false, true, true, true, false, true, true, false, false, true, true, true, true, false, false]) (by kernel_rfl) (m_weak ?_ ?_ ?_ ((hW _ _ _ _).1 (st10110 b26 b33 b38)))⟩
        · exact ⟨rfl, rfl, rfl, rfl, rfl, rfl, rfl, rfl, rfl, trivial⟩
        · (apply ent; (repeat constructor); done)
        · (apply ent; (repeat constructor); done)
    have st11000 : ∀ (b26 : Nat) (b31 : Nat), W 9 #[true, true, true, false, true, true, false, false, true, true, false, true, false, false, false, true, true, true, true, false, false] [(6, .pointer (some ⟨b6, 0, none⟩)), (28, .slice pr L.length cr), (30, .agg #[.int .i64 (Rl.kind (r) : Nat), .int .u8 (Rl.byte (r) : Nat), .int .i64 (Rl.left (r) : Nat), .int .i64 (Rl.right (r) : Nat), .int .i64 (Rl.times (r) : Nat)]), (35, .slice pl L.length cl), (37, .int .i64 (ln : Nat)), (44, .int .i64 ((L.length + 1 : Nat) : Int)), (26, .slice (some ⟨b26, 0, none⟩) 0 0), (31, .slice (some ⟨b31, 0, none⟩) 1 1)] [cells b3 [.slice pr L.length cr, .slice pl L.length cl] 35, cells b4 [.int .i64 (Rl.kind (r) : Nat), .int .u8 (Rl.byte (r) : Nat), .int .i64 (Rl.left (r) : Nat), .int .i64 (Rl.right (r) : Nat), .int .i64 (Rl.times (r) : Nat)] 42, sl pr cr 42 5 L.length (rusC L), sl pl cl 3 1 L.length (lnC L L.length), sl (some ⟨b26, 0, none⟩) 0 42 5 0 [], cells b31 (rlC r) 42, cells b6 [.slice none 0 0, .slice none 0 0] 35, R] := by
      intro b26 b31
      refine (hW _ _ _ _).2 ?_
      refine m_any [3, 7, 12] (by kernel_rfl) (by simp) (fun i hi => ?_)
      simp only [List.mem_cons, List.not_mem_nil, or_false] at hi
      rcases hi with rfl | rfl | rfl
      · refine ⟨_, _, _, _, _, rfl, rfl, ?_⟩
        apply ld_append_slz (hE.t rfl) (hE.t rfl) rfl rfl rfl
        · ((repeat constructor); done)
        · ((repeat constructor); done)
        · exact rusC_one L
        · omega
        · (unfold maxLen; omega)
        intro p29 c29 m29 x29 hm29 hx29
        obtain rfl : m29 = L.length := by omega
        obtain rfl : x29 = rusC L := by rw [hx29]; rfl
        refine ⟨by (apply ent; (repeat constructor); done), m_list (l := #[true, true, true, true, true, true, false, false, true, true, false, true, false, false, false, true, true, true, true, false, false]) (by kernel_rfl) (m_weak ?_ ?_ ?_ ((hW _ _ _ _).1 (st11001 b31 p29 c29)))⟩
        · exact ⟨rfl, rfl, rfl, rfl, rfl, rfl, rfl, rfl, trivial⟩
        · (apply ent; (repeat constructor); done)
        · (apply ent; (repeat constructor); done)
      · refine ⟨_, _, _, _, _, rfl, rfl, ?_⟩
        refine ld_buildSlice0 (hE.t rfl) (fun b33 => ?_)
        refine ⟨by (apply ent; (repeat constructor); done), m_list (l := #[true, true, true, false, true, true, false, true, true, true, false, true, false, false, false, true, true, true, true, false, false]) (by kernel_rfl) (m_weak ?_ ?_ ?_ ((hW _ _ _ _).1 (st11100 b26 b31 b33)))⟩
        · exact ⟨rfl, rfl, rfl, rfl, rfl, rfl, rfl, rfl, rfl, trivial⟩
        · (apply ent; (repeat constructor); done)
        · (apply ent; (repeat constructor); done)
      · refine ⟨_, _, _, _, _, rfl, rfl, ?_⟩
        refine ld_buildSlice (hE.t rfl) (hE.t rfl) rfl rfl rfl (fun b38 => ?_)
        refine ⟨by (apply ent; (repeat constructor); done), m_list (l := #[true, true, true, false, true, true, false, false, true, true, false, true, true, false, false, true, true, true, true, false, false]) (by kernel_rfl) (m_weak ?_ ?_ ?_ ((hW _ _ _ _).1 (st11010 b26 b31 b38)))⟩
        · exact ⟨rfl, rfl, rfl, rfl, rfl, rfl, rfl, rfl, rfl, trivial⟩
        · (apply ent; (repeat constructor); done)
        · (apply ent; (repeat constructor); done)
    have st00010 : ∀ (b38 : Nat), W 10 #[false, true, true, false, true, false, false, false, true, true, false, true, true, false, false, true, true, true, true, false, false] [(6, .pointer (some ⟨b6, 0, none⟩)), (28, .slice pr L.length cr), (30, .agg #[.int .i64 (Rl.kind (r) : Nat), .int .u8 (Rl.byte (r) : Nat), .int .i64 (Rl.left (r) : Nat), .int .i64 (Rl.right (r) : Nat), .int .i64 (Rl.times (r) : Nat)]), (35, .slice pl L.length cl), (37, .int .i64 (ln : Nat)), (44, .int .i64 ((L.length + 1 : Nat) : Int)), (38, .slice (some ⟨b38, 0, none⟩) 1 1)] [cells b3 [.slice pr L.length cr, .slice pl L.length cl] 35, cells b4 [.int .i64 (Rl.kind (r) : Nat), .int .u8 (Rl.byte (r) : Nat), .int .i64 (Rl.left (r) : Nat), .int .i64 (Rl.right (r) : Nat), .int .i64 (Rl.times (r) : Nat)] 42, sl pr cr 42 5 L.length (rusC L), sl pl cl 3 1 L.length (lnC L L.length), cells b38 [.int .i64 (ln : Nat)] 3, cells b6 [.slice none 0 0, .slice none 0 0] 35, R] := by
      intro b38
      refine (hW _ _ _ _).2 ?_
      refine m_any [0, 5, 7] (by kernel_rfl) (by simp) (fun i hi => ?_)
      simp only [List.mem_cons, List.not_mem_nil, or_false] at hi
      rcases hi with rfl | rfl | rfl
      · refine ⟨_, _, _, _, _, rfl, rfl, ?_⟩
        refine ld_buildSlice0 (hE.t rfl) (fun b26 => ?_)
        refine ⟨by (apply ent; (repeat constructor); done), m_list (l := #[true, true, true, false, true, false, false, false, true, true, false, true, true, false, false, true, true, true, true, false, false]) (by kernel_rfl) (m_weak ?_ ?_ ?_ ((hW _ _ _ _).1 (st10010 b26 b38)))⟩
        · exact ⟨rfl, rfl, rfl, rfl, rfl, rfl, rfl, rfl, trivial⟩
        · (apply ent; (repeat constructor); done)
        · (apply ent; (repeat constructor); done)
      · refine ⟨_, _, _, _, _, rfl, rfl, ?_⟩
        refine ld_buildSlice (hE.t rfl) (hE.t rfl) rfl rfl rfl (fun b31 => ?_)
        refine ⟨by (apply ent; (repeat constructor); done), m_list (l := #[false, true, true, false, true, true, false, false, true, true, false, true, true, false, false, true, true, true, true, false, false]) (by kernel_rfl) (m_weak ?_ ?_ ?_ ((hW _ _ _ _).1 (st01010 b31 b38)))⟩
        · exact ⟨rfl, rfl, rfl, rfl, rfl, rfl, rfl, rfl, trivial⟩
        · (apply ent; (repeat constructor); done)
        · (apply ent; (repeat constructor); done)
      · refine ⟨_, _, _, _, _, rfl, rfl, ?_⟩
        refine ld_buildSlice0 (hE.t rfl) (fun b33 => ?_)
        refine ⟨by (apply ent; (repeat constructor); done), m_list (l := #[false, true, true, false, true, false, false, true, true, true, false, true, true, false, false, true, true, true, true, false, false]) (by kernel_rfl) (m_weak ?_ ?_ ?_ ((hW _ _ _ _).1 (st00110 b33 b38)))⟩
        · exact ⟨rfl, rfl, rfl, rfl, rfl, rfl, rfl, rfl, trivial⟩
        · (apply ent; (repeat constructor); done)
        · (apply ent; (repeat constructor); done)
    have st00100 : ∀ (b33 : Nat), W 10 #[false, true, true, false, true, false, false, true, true, true, false, true, false, false, false, true, true, true, true, false, false] [(6, .pointer (some ⟨b6, 0, none⟩)), (28, .slice pr L.length cr), (30, .agg #[.int .i64 (Rl.kind (r) : Nat), .int .u8 (Rl.byte (r) : Nat), .int .i64 (Rl.left (r) : Nat), .int .i64 (Rl.right (r) : Nat), .int .i64 (Rl.times (r) : Nat)]), (35, .slice pl L.length cl), (37, .int .i64 (ln : Nat)), (44, .int .i64 ((L.length + 1 : Nat) : Int)), (33, .slice (some ⟨b33, 0, none⟩) 0 0)] [cells b3 [.slice pr L.length cr, .slice pl L.length cl] 35, cells b4 [.int .i64 (Rl.kind (r) : Nat), .int .u8 (Rl.byte (r) : Nat), .int .i64 (Rl.left (r) : Nat), .int .i64 (Rl.right (r) : Nat), .int .i64 (Rl.times (r) : Nat)] 42, sl pr cr 42 5 L.length (rusC L), sl pl cl 3 1 L.length (lnC L L.length), sl (some ⟨b33, 0, none⟩) 0 3 1 0 [], cells b6 [.slice none 0 0, .slice none 0 0] 35, R] := by
      intro b33
      refine (hW _ _ _ _).2 ?_
      refine m_any [0, 5, 12] (by kernel_rfl) (by simp) (fun i hi => ?_)
      simp only [List.mem_cons, List.not_mem_nil, or_false] at hi
      rcases hi with rfl | rfl | rfl
      · refine ⟨_, _, _, _, _, rfl, rfl, ?_⟩
        refine ld_buildSlice0 (hE.t rfl) (fun b26 => ?_)
        refine ⟨by (apply ent; (repeat constructor); done), m_list (l := #[true, true, true, false, true, false, false, true, true, true, false, true, false, false, false, true, true, true, true, false, false]) (by kernel_rfl) (m_weak ?_ ?_ ?_ ((hW _ _ _ _).1 (st10100 b26 b33)))⟩
        · exact ⟨rfl, rfl, rfl, rfl, rfl, rfl, rfl, rfl, trivial⟩
        · (apply ent; (repeat constructor); done)
        · (apply ent; (repeat constructor); done)
      · refine ⟨_, _, _, _, _, rfl, rfl, ?_⟩
        refine ld_buildSlice (hE.t rfl) (hE.t rfl) rfl rfl rfl (fun b31 => ?_)
        refine ⟨by (apply ent; (repeat constructor); done), m_list (l := #[false, true, true, false, true, true, false, true, true, true, false, true, false, false, false, true, true, true, true, false, false]) (by kernel_rfl) (m_weak ?_ ?_ ?_ ((hW _ _ _ _).1 (st01100 b31 b33)))⟩
        · exact ⟨rfl, rfl, rfl, rfl, rfl, rfl, rfl, rfl, trivial⟩
        · (apply ent; (repeat constructor); done)
        · (apply ent; (repeat constructor); done)
      · refine ⟨_, _, _, _, _, rfl, rfl, ?_⟩
        refine ld_buildSlice (hE.t rfl) (hE.t rfl) rfl rfl rfl (fun b38 => ?_)
        refine ⟨by (apply ent; (repeat constructor); done), m_list (l := #[false, true, true, false, true, false, false, true, true, true, false, true, true, false, false, true, true, true, true, false, false]) (by kernel_rfl) (m_weak ?_ ?_ ?_ ((hW _ _ _ _).1 (st00110 b33 b38)))⟩
        · exact ⟨rfl, rfl, rfl, rfl, rfl, rfl, rfl, rfl, trivial⟩
        · (apply ent; (repeat constructor); done)
        · (apply ent; (repeat constructor); done)
    have st01000 : ∀ (b31 : Nat), W 10 #[false, true, true, false, true, true, false, false, true, true, false, true, false, false, false, true, true, true, true, false, false] [(6, .pointer (some ⟨b6, 0, none⟩)), (28, .slice pr L.length cr), (30, .agg #[.int .i64 (Rl.kind (r) : Nat), .int .u8 (Rl.byte (r) : Nat), .int .i64 (Rl.left (r) : Nat), .int .i64 (Rl.right (r) : Nat), .int .i64 (Rl.times (r) : Nat)]), (35, .slice pl L.length cl), (37, .int .i64 (ln : Nat)), (44, .int .i64 ((L.length + 1 : Nat) : Int)), (31, .slice (some ⟨b31, 0, none⟩) 1 1)] [cells b3 [.slice pr L.length cr, .slice pl L.length cl] 35, cells b4 [.int .i64 (Rl.kind (r) : Nat), .int .u8 (Rl.byte (r) : Nat), .int .i64 (Rl.left (r) : Nat), .int .i64 (Rl.right (r) : Nat), .int .i64 (Rl.times (r) : Nat)] 42, sl pr cr 42 5 L.length (rusC L), sl pl cl 3 1 L.length (lnC L L.length), cells b31 (rlC r) 42, cells b6 [.slice none 0 0, .slice none 0 0] 35, R] := by
      intro b31
      refine (hW _ _ _ _).2 ?_
      refine m_any [0, 7, 12] (by kernel_rfl) (by simp) (fun i hi => ?_)
      simp only [List.mem_cons, List.not_mem_nil, or_false] at hi
      rcases hi with rfl | rfl | rfl
      · refine ⟨_, _, _, _, _, rfl, rfl, ?_⟩
        refine ld_buildSlice0 (hE.t rfl) (fun b26 => ?_)
        refine ⟨by (apply ent; (repeat constructor); done), m_list (l := #[true, true, true, false, true, true, false, false, true, true, false, true, false, false, false, true, true, true, true, false, false]) (by kernel_rfl) (m_weak ?_ ?_ ?_ ((hW _ _ _ _).1 (st11000 b26 b31)))⟩
        · exact ⟨rfl, rfl, rfl, rfl, rfl, rfl, rfl, rfl, trivial⟩
        · (apply ent; (repeat constructor); done)
        · (apply ent; (repeat constructor); done)
      · refine ⟨_, _, _, _, _, rfl, rfl, ?_⟩
        refine ld_buildSlice0 (hE.t rfl) (fun b33 => ?_)
        refine ⟨by (apply ent; (repeat constructor); done), m_list (l := #[false, true, true, false, true, true, false, true, true, true, false, true, false, false, false, true, true, true, true, false, false]) (by kernel_rfl) (m_weak ?_ ?_ ?_ ((hW _ _ _ _).1 (st01100 b31 b33)))⟩
        · exact ⟨rfl, rfl, rfl, rfl, rfl, rfl, rfl, rfl, trivial⟩
        · (apply ent; (repeat constructor); done)
        · (apply ent; (repeat constructor); done)
      · refine ⟨_, _, _, _, _, rfl, rfl, ?_⟩
        refine ld_buildSlice (hE.t rfl) (hE.t rfl) rfl rfl rfl (fun b38 => ?_)
        refine ⟨by (apply ent; (repeat constructor); done), m_list (l := #[false, true, true, false, true, true, false, false, true, true, false, true, true, false, false, true, true, true, true, false, false]) (by kernel_rfl) (m_weak ?_ ?_ ?_ ((hW _ _ _ _).1 (st01010 b31 b38)))⟩
        · exact ⟨rfl, rfl, rfl, rfl, rfl, rfl, rfl, rfl, trivial⟩
        · (apply ent; (repeat constructor); done)
        · (apply ent; (repeat constructor); done)
    have st10000 : ∀ (b26 : Nat), W 10 #[true, true, true, false, true, false, false, false, true, true, false, true, false, false, false, true, true, true, true, false, false] [(6, .pointer (some ⟨b6, 0, none⟩)), (28, .slice pr L.length cr), (30, .agg #[.int .i64 (Rl.kind (r) : Nat), .int .u8 (Rl.byte (r) : Nat), .int .i64 (Rl.left (r) : Nat), .int .i64 (Rl.right (r) : Nat), .int .i64 (Rl.times (r) : Nat)]), (35, .slice pl L.length cl), (37, .int .i64 (ln : Nat)), (44, .int .i64 ((L.length + 1 : Nat) : Int)), (26, .slice (some ⟨b26, 0, none⟩) 0 0)] [cells b3 [.slice pr L.length cr, .slice pl L.length cl] 35, cells b4 [.int .i64 (Rl.kind (r) : Nat), .int .u8 (Rl.byte (r) : Nat), .int .i64 (Rl.left (r) : Nat), .int .i64 (Rl.right (r) : Nat), .int .i64 (Rl.times (r) : Nat)] 42, sl pr cr 42 5 L.length (rusC L), sl pl cl 3 1 L.length (lnC L L.length), sl (some ⟨b26, 0, none⟩) 0 42 5 0 [], cells b6 [.slice none 0 0, .slice none 0 0] 35, R] := by
      intro b26
      refine (hW _ _ _ _).2 ?_
      refine m_any [3, 5, 7, 12] (by kernel_rfl) (by simp) (fun i hi => ?_)
      simp only [List.mem_cons, List.not_mem_nil, or_false] at hi
      rcases hi with rfl | rfl | rfl | rfl
      · refine ⟨_, _, _, _, _, rfl, rfl, ?_⟩
        apply ld_append_slz (hE.t rfl) (hE.t rfl) rfl rfl rfl
        · ((repeat constructor); done)
        · ((repeat constructor); done)
        · exact rusC_one L
        · omega
        · (unfold maxLen; omega)
        intro p29 c29 m29 x29 hm29 hx29
        obtain rfl : m29 = L.length := by omega
        obtain rfl : x29 = rusC L := by rw [hx29]; rfl
        refine ⟨by (apply ent; (repeat constructor); done), m_list (l := #[true, true, true, true, true, false, false, false, true, true, false, true, false, false, false, true, true, true, true, false, false]) (by kernel_rfl) (m_weak ?_ ?_ ?_ ((hW _ _ _ _).1 (st10001 p29 c29)))⟩
        · exact ⟨rfl, rfl, rfl, rfl, rfl, rfl, rfl, trivial⟩
        · (apply ent; (repeat constructor); done)
        · (apply ent; (repeat constructor); done)
      · refine ⟨_, _, _, _, _, rfl, rfl, ?_⟩
        refine ld_buildSlice (hE.t rfl) (hE.t rfl) rfl rfl rfl (fun b31 => ?_)
        refine ⟨by (apply ent; (repeat constructor); done), m_list (l := #[true, true, true, false, true, true, false, false, true, true, false, true, false, false, false, true, true, true, true, false, false]) (by kernel_rfl) (m_weak ?_ ?_ ?_ ((hW _ _ _ _).1 (st11000 b26 b31)))⟩
        · exact ⟨rfl, rfl, rfl, rfl, rfl, rfl, rfl, rfl, trivial⟩
        · (apply ent; (repeat constructor); done)
        · (apply ent; (repeat constructor); done)
      · refine ⟨_, _, _, _, _, rfl, rfl, ?_⟩
        refine ld_buildSlice0 (hE.t rfl) (fun b33 => ?_)
        refine ⟨by (apply ent; (repeat constructor); done), m_list (l := #[true, true, true, false, true, false, false, true, true, true, false, true, false, false, false, true, true, true, true, false, false]) (by kernel_rfl) (m_weak ?_ ?_ ?_ ((hW _ _ _ _).1 (st10100 b26 b33)))⟩
        · exact ⟨rfl, rfl, rfl, rfl, rfl, rfl, rfl, rfl, trivial⟩
        · (apply ent; (repeat constructor); done)
        · (apply ent; (repeat constructor); done)
      · refine ⟨_, _, _, _, _, rfl, rfl, ?_⟩
        refine ld_buildSlice (hE.t rfl) (hE.t rfl) rfl rfl rfl (fun b38 => ?_)
        refine ⟨by (apply ent; (repeat constructor); done), m_list (l := #[true, true, true, false, true, false, false, false, true, true, false, true, true, false, false, true, true, true, true, false, false]) (by kernel_rfl) (m_weak ?_ ?_ ?_ ((hW _ _ _ _).1 (st10010 b26 b38)))⟩
        · exact ⟨rfl, rfl, rfl, rfl, rfl, rfl, rfl, rfl, trivial⟩
        · (apply ent; (repeat constructor); done)
        · (apply ent; (repeat constructor); done)
    have st00000 : W 11 #[false, true, true, false, true, false, false, false, true, true, false, true, false, false, false, true, true, true, true, false, false] [(6, .pointer (some ⟨b6, 0, none⟩)), (28, .slice pr L.length cr), (30, .agg #[.int .i64 (Rl.kind (r) : Nat), .int .u8 (Rl.byte (r) : Nat), .int .i64 (Rl.left (r) : Nat), .int .i64 (Rl.right (r) : Nat), .int .i64 (Rl.times (r) : Nat)]), (35, .slice pl L.length cl), (37, .int .i64 (ln : Nat)), (44, .int .i64 ((L.length + 1 : Nat) : Int))] [cells b3 [.slice pr L.length cr, .slice pl L.length cl] 35, cells b4 [.int .i64 (Rl.kind (r) : Nat), .int .u8 (Rl.byte (r) : Nat), .int .i64 (Rl.left (r) : Nat), .int .i64 (Rl.right (r) : Nat), .int .i64 (Rl.times (r) : Nat)] 42, sl pr cr 42 5 L.length (rusC L), sl pl cl 3 1 L.length (lnC L L.length), cells b6 [.slice none 0 0, .slice none 0 0] 35, R] := by
      refine (hW _ _ _ _).2 ?_
      refine m_any [0, 5, 7, 12] (by kernel_rfl) (by simp) (fun i hi => ?_)
      simp only [List.mem_cons, List.not_mem_nil, or_false] at hi
      rcases hi with rfl | rfl | rfl | rfl
      · refine ⟨_, _, _, _, _, rfl, rfl, ?_⟩
        refine ld_buildSlice0 (hE.t rfl) (fun b26 => ?_)
        refine ⟨by (apply ent; (repeat constructor); done), m_list (l := #[true, true, true, false, true, false, false, false, true, true, false, true, false, false, false, true, true, true, true, false, false]) (by kernel_rfl) (m_weak ?_ ?_ ?_ ((hW _ _ _ _).1 (st10000 b26)))⟩
        · exact ⟨rfl, rfl, rfl, rfl, rfl, rfl, rfl, trivial⟩
        · (apply ent; (repeat constructor); done)
        · (apply ent; (repeat constructor); done)
      · refine ⟨_, _, _, _, _, rfl, rfl, ?_⟩
        refine ld_buildSlice (hE.t rfl) (hE.t rfl) rfl rfl rfl (fun b31 => ?_)
        refine ⟨by (apply ent; (repeat constructor); done), m_list (l := #[false, true, true, false, true, true, false, false, true, true, false, true, false, false, false, true, true, true, true, false, false]) (by kernel_rfl) (m_weak ?_ ?_ ?_ ((hW _ _ _ _).1 (st01000 b31)))⟩
        · exact ⟨rfl, rfl, rfl, rfl, rfl, rfl, rfl, trivial⟩
        · (apply ent; (repeat constructor); done)
        · (apply ent; (repeat constructor); done)
      · refine ⟨_, _, _, _, _, rfl, rfl, ?_⟩
        refine ld_buildSlice0 (hE.t rfl) (fun b33 => ?_)
        refine ⟨by (apply ent; (repeat constructor); done), m_list (l := #[false, true, true, false, true, false, false, true, true, true, false, true, false, false, false, true, true, true, true, false, false]) (by kernel_rfl) (m_weak ?_ ?_ ?_ ((hW _ _ _ _).1 (st00100 b33)))⟩
        · exact ⟨rfl, rfl, rfl, rfl, rfl, rfl, rfl, trivial⟩
        · (apply ent; (repeat constructor); done)
        · (apply ent; (repeat constructor); done)
      · refine ⟨_, _, _, _, _, rfl, rfl, ?_⟩
        refine ld_buildSlice (hE.t rfl) (hE.t rfl) rfl rfl rfl (fun b38 => ?_)
        refine ⟨by (apply ent; (repeat constructor); done), m_list (l := #[false, true, true, false, true, false, false, false, true, true, false, true, true, false, false, true, true, true, true, false, false]) (by kernel_rfl) (m_weak ?_ ?_ ?_ ((hW _ _ _ _).1 (st00010 b38)))⟩
        · exact ⟨rfl, rfl, rfl, rfl, rfl, rfl, rfl, trivial⟩
        · (apply ent; (repeat constructor); done)
        · (apply ent; (repeat constructor); done)
    refine (hW _ _ _ _).2 (m_list (l := #[false, true, true, false, true, false, false, false, true, true, false, true, false, false, false, true, true, true, true, false, false]) (by kernel_rfl) (m_weak ?_ ?_ ?_ ((hW _ _ _ _).1 st00000)))
    · exact ⟨rfl, rfl, rfl, rfl, rfl, rfl, trivial⟩
    · (apply ent; (repeat constructor); done)
    · (apply ent; (repeat constructor); done)
end Go.Proofs.YtekhbjlplfbdkaaDoor
