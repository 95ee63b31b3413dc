/- Appending what can be read. -/
import Derived.Test.YtekhbjlplfbdkaaGreatDoorQ13
import Derived.Test.YtekhbjlplfbdkaaGreatDoorQ17
import Derived.Test.YtekhbjlplfbdkaaGreatDoorQSlq
set_option linter.unusedVariables false
set_option linter.unusedSimpArgs false
namespace Sl
open Go Go.RowKit
variable {E : Env} {n : Nat} {L : Fr} {S S' H H' H'' : List HP} {ty : TypeId} {pos : String} {af : Array Edge} {d : Option Nat} {gd : Option (Nat × Bool)} {K : Value → List HP → Prop} {Q : Exit → Act → World → Prop}
def Rdb (w0 : World) (a : Option Addr) (vs : List Value) (q : HP) : Prop := vs ≠ [] → ∃ g o, a = some ⟨g, o, none⟩ ∧ ∀ k, q k → RdAt w0 g o vs k
theorem ld_append_q {x y : Operand} {t e : TypeId} {p : Option Addr} {c m cc g o by_ sz sz' : Nat} {xs us zs zs' : List Value} {kk : TK} {q : HP} (ht : E.tab t = some ⟨.slice e 1 by_, sz, zs⟩) (he : E.tab e = some ⟨kk, sz', zs'⟩) (hz : Nat.beq zs'.length 1 = true)
    (hx : ev L x = some (.slice p m c)) (hy : ev L y = some (.slice (some ⟨g, o, none⟩) us.length cc)) (hq : ∀ k, q k → RdAt E.w0 g o us k) (hm : Take q H H') (hm2 : Take (sl p c e 1 m xs) H' H'') (hp : ∀ u ∈ us, u.oneCell' = true) (h0 : 0 < us.length) (hb : (m + us.length) * by_ ≤ 140737488355328) (hb2 : m + us.length ≤ maxLen)
    (hk : ∀ g' c' m' xs', m' = m + us.length → xs' = xs ++ us → K (.slice (some ⟨g', 0, none⟩) m' c') (sl (some ⟨g', 0, none⟩) c' e 1 m' xs' :: q :: H'')) : Ld E n L H ⟨d, .call { callee := .builtin .append, args := #[x, y], argTypes := #[t, t] }, ty, pos, af, gd⟩ K := fun Q next a w G hn => by
  obtain ⟨hu, j, hj, hs, hby⟩ := tab_slice ht
  obtain ⟨i, z, hi, hi2, hiz, hzc, _⟩ := tab_info he
  obtain rfl : i = j := by rw [hi] at hj; simpa using hj
  have z1 := Nat.eq_of_beq_eq_true hz
  have s1 := G.hp.take hm
  have s2 : Sat E.w0 w (sl p c e 1 m xs :: q :: H'') := (s1.imp fun _ h => stars_swap (stars_cons (fun _ => hm2.out) h))
  have hnews : ∀ j u, us[j]? = some u → w.cell? ((⟨g, o, none⟩ : Addr).add j) = some u := fun j u hu => by rw [addr_add]; exact rd_cell hq s1 hu
  obtain ⟨g', c', w', hr, ho, hgr, hat, _⟩ := run_append_lies (P := E.P) w t ty E.w0.heap.size e i z 1 by_ hu hi hiz hs hby (by rw [← Array.length_toList, hzc]; exact z1) (by omega) (.slice p m c) m xs s2.owns ⟨g, o, none⟩ us.length cc us (by omega) hnews hp h0 hb2 hb s2.size _ rfl
  have hrun : (execOp a.eval ⟨d, .call { callee := .builtin .append, args := #[x, y], argTypes := #[t, t] }, ty, pos, af, gd⟩).run E.P w = .ok (.value (.slice (some ⟨g', 0, none⟩) (m + us.length) c')) w' := by
    simp [execOp, resolve, invoke, builtin, G.f.ev hx, G.f.ev hy, hr]
  unfold Oper.wp
  rw [hrun, Oper.upon_value]
  exact hn _ _ _ (hk g' c' _ _ rfl rfl) (s2.resl ho hgr hat)
theorem ld_append_none {x y : Operand} {t e : TypeId} {p a' : Option Addr} {c m cc es by_ sz : Nat} {zs xs : List Value} (ht : E.tab t = some ⟨.slice e es by_, sz, zs⟩)
    (hx : ev L x = some (.slice p m c)) (hy : ev L y = some (.slice a' 0 cc)) (hm : Take (sl p c e es m xs) H H') (hk : K (.slice p m c) H) : Ld E n L H ⟨d, .call { callee := .builtin .append, args := #[x, y], argTypes := #[t, t] }, ty, pos, af, gd⟩ K := fun Q next a w G hn => by
  obtain ⟨hu, j, hj, hs, hby⟩ := tab_slice ht
  obtain ⟨h1, h2, _, _, hh, _⟩ := (G.hp.take hm).hp
  have hmc := (sl_cap hh).1
  have hrun : (execOp a.eval ⟨d, .call { callee := .builtin .append, args := #[x, y], argTypes := #[t, t] }, ty, pos, af, gd⟩).run E.P w = .ok (.value (.slice p m c)) w := by
    cases p <;> cases a' <;> simp [execOp, resolve, invoke, builtin, G.f.ev hx, G.f.ev hy, Builtin.append_, underlying, program, Sem.run, hu, Go.sizeOf, typeInfo, hj, Builtin.lenOf, Builtin.firstCells, hmc, storeCells, loadCells, loadCellsFrom]
  unfold Oper.wp
  rw [hrun, Oper.upon_value]
  exact hn _ _ _ hk G.hp
theorem ld_append_any {x y : Operand} {t e : TypeId} {p a : Option Addr} {c m k cc by_ sz sz' : Nat} {xs us zs zs' : List Value} {kk : TK} {q : HP} (ht : E.tab t = some ⟨.slice e 1 by_, sz, zs⟩) (he : E.tab e = some ⟨kk, sz', zs'⟩) (hz : Nat.beq zs'.length 1 = true)
    (hx : ev L x = some (.slice p m c)) (hy : ev L y = some (.slice a k cc)) (hk0 : k = us.length) (hq : Rdb E.w0 a us q) (hm : Take q H H') (hm2 : Take (sl p c e 1 m xs) H' H'') (hp : ∀ u ∈ us, u.oneCell' = true) (hb : (m + us.length) * by_ ≤ 140737488355328) (hb2 : m + us.length ≤ maxLen)
    (hk : ∀ p' c' m' xs', m' = m + us.length → xs' = xs ++ us → K (.slice p' m' c') (sl p' c' e 1 m' xs' :: q :: H'')) : Ld E n L H ⟨d, .call { callee := .builtin .append, args := #[x, y], argTypes := #[t, t] }, ty, pos, af, gd⟩ K := by
  subst hk0
  rcases Nat.eq_zero_or_pos us.length with h | h
  · obtain rfl := List.eq_nil_of_length_eq_zero h
    have key : Ld E n L (sl p c e 1 m xs :: q :: H'') ⟨d, .call { callee := .builtin .append, args := #[x, y], argTypes := #[t, t] }, ty, pos, af, gd⟩ K := ld_append_none ht hx hy Take.here (hk p c m xs (by simp) (by simp))
    exact fun Q next a w G hn => key Q next a w ⟨G.f, G.hp.imp fun _ s => stars_swap (stars_cons (fun _ => hm2.out) (hm.out s))⟩ hn
  · obtain ⟨g, o, rfl, hq'⟩ := hq (by rintro rfl; simp at h)
    exact ld_append_q ht he hz hx hy hq' hm hm2 hp h hb hb2 (fun g' c' => hk (some ⟨g', 0, none⟩) c')
end Sl
namespace Go.Proofs.YtekhbjlplfbdkaaGreatDoor
open Go Go.RowKit Sl Eg
set_option maxRecDepth 10000
variable {E : Env} {Es : List Ent} {pp tb s most : Nat}
structure Tx where
  a : Option Addr
  bs : List UInt8
  c : Nat
def txV (t : Tx) : Value := .slice t.a t.bs.length t.c
def Old (w0 : World) (a : Option Addr) (bs : List UInt8) : Prop := bs ≠ [] → ∃ g o, a = some ⟨g, o, none⟩ ∧ ∀ (i : Nat) (v : Value), (byC bs)[i]? = some v → w0.cell? ⟨g, o + i, none⟩ = some v
def OkT (w0 : World) (t : Tx) : Prop := Old w0 t.a t.bs ∧ t.bs.length ≤ 140737488355328 ∧ t.bs.length ≤ t.c
theorem Old.rd {w0 : World} {a : Option Addr} {bs : List UInt8} (h : Old w0 a bs) : bs ≠ [] → ∃ g o, a = some ⟨g, o, none⟩ ∧ ∀ k, old k → RdAt w0 g o (byC bs) k := fun hb => by
  obtain ⟨g, o, h1, h2⟩ := h hb
  exact ⟨g, o, h1, rd_old h2⟩
def lens (ts : List Tx) : Nat := (ts.map fun t => t.bs.length).sum
theorem lens_snoc (ts : List Tx) (t : Tx) : lens (ts ++ [t]) = lens ts + t.bs.length := by simp [lens]
theorem lens_take {ts : List Tx} {k : Nat} {t : Tx} (h : ts[k]? = some t) : lens (ts.take (k + 1)) = lens (ts.take k) + t.bs.length := by rw [List.take_add_one, h]; exact lens_snoc _ _
theorem lens_take_le (ts : List Tx) (k : Nat) : lens (ts.take k) ≤ lens ts := by
  have : lens ts = lens (ts.take k) + lens (ts.drop k) := by
    conv => lhs; rw [← List.take_append_drop k ts]
    simp only [lens, List.map_append, List.sum_append]
  omega
theorem len_le_lens {ts : List Tx} {t : Tx} (h : t ∈ ts) : t.bs.length ≤ lens ts := by
  induction ts with
  | nil => simp at h
  | cons x l ih =>
    simp only [lens, List.map_cons, List.sum_cons] at ih ⊢
    rcases List.mem_cons.1 h with rfl | h
    · omega
    · have := ih h; omega
theorem txV_get {ts : List Tx} {i : Nat} {x : Tx} (h : ts[i]? = some x) : (ts.map txV)[i]? = some (.slice x.a x.bs.length x.c) := by simp [h, txV]
theorem ct_long (hE : Seat E) {ts : List Tx} {A : Option Addr} {C : Nat} {q : HP} (hq : Rdb E.w0 A (ts.map txV) q) (hok : ∀ t ∈ ts, OkT E.w0 t) (hn : ts.length ≤ 140737488355328) :
    Ct E 15 [.slice A ts.length C] [q] (fun v Q => v = .bool (decide (2000 < ts.length + lens ts)) ∧ Q = [q]) := by
  refine fn_enter (hE.fn Tryz.func15) rfl rfl rfl (fun R => ?_)
  simp only [argsL, List.cons_append, List.nil_append]
  refine w_seq (wR ?_)
  refine lY (yA rfl) rfl ?_
  refine l_nil (aT (w_seq (wR ?_)))
  refine lY (yM rfl) rfl ?_
  refine lY (y_len_slice rfl (hE.t rfl)) rfl ?_
  refine lY (yA rfl) rfl ?_
  refine l_nil (aT (w_seq (w_seq (wR ?_))))
  refine lY (yM rfl) rfl ?_
  refine lY (y_len_slice rfl (hE.t rfl)) rfl ?_
  refine lY (yM rfl) rfl ?_
  refine l_nil (aT (w_block ?_))
  skip
  refine w_loop (fun k : Nat => [(3, .int .i64 ((ts.length + lens (ts.take k) : Nat) : Int)), (8, .slice A ts.length C), (9, .int .i64 (ts.length : Nat)), (10, .int .i64 (k : Nat))]) (fun k => [q, R]) (fun k => ts.length - k) (fun k => k ≤ ts.length ∧ (0 < k → ts.length + lens (ts.take k) ≤ 2000)) 0 ?_ ?_ ?_ ?_
  · exact ⟨Nat.zero_le _, fun h => absurd h (by omega)⟩
  · exact ⟨rfl, rfl, rfl, rfl, trivial⟩
  · (apply ent; (repeat constructor); done)
  rintro k ⟨hk, hlow⟩
  have hz : lens (ts.take 0) = 0 := by simp [lens]
  have hb : ts.length + lens (ts.take k) ≤ 140737488355328 := by
    rcases Nat.eq_zero_or_pos k with rfl | h
    · omega
    · have := hlow h; omega
  skip
  refine w_seq (wR ?_)
  refine lY (y_lt rfl rfl) rfl ?_
  refine l_nil (aT (w_seq ?_))
  refine w_cond_d rfl (fun h1 => ?_) (fun h1 => ?_)
  · skip
    have hkl : k < ts.length := by omega
    obtain ⟨g, o, rfl, hqq⟩ := hq (by intro e; rw [List.map_eq_nil_iff] at e; rw [e] at hkl; simp at hkl)
    obtain ⟨t, ht⟩ : ∃ t, ts[k]? = some t := ⟨_, List.getElem?_eq_getElem hkl⟩
    have f0 := txV_get ht
    have hot := hok t (List.mem_of_getElem? ht)
    have hot2 := hot.2.1
    have hl := lens_take ht
    refine w_skip (aT (w_seq (w_block (w_seq (wR ?_)))))
    apply lY
    · (first | exact y_indexAddr1 rfl rfl (hE.t rfl) (by omega) (by omega) | exact y_indexAddr rfl rfl (hE.t rfl) (by omega) (by omega))
    · rfl
    apply lY
    · (first | (apply y_load rfl (hE.t rfl) rfl; (repeat (first | rfl | assumption | constructor)); done) | exact y_load_old rfl (hE.t rfl) rfl (by assumption) | (apply y_load_ro rfl (hE.t rfl) rfl; (focus ((repeat constructor); done)); (focus assumption)) | (apply y_load_q rfl (hE.t rfl) rfl (by assumption); (focus ((repeat constructor); done)); (first | ((focus exact f0); (focus omega)) | ((focus exact f1); (focus omega)) | ((focus assumption); (focus omega)))))
    · rfl
    refine lY (yA rfl) rfl ?_
    refine l_nil (aT (w_seq (wR ?_)))
    refine lY (yM rfl) rfl ?_
    refine lY (yM rfl) rfl ?_
    refine lY (y_len_slice rfl (hE.t rfl)) rfl ?_
    refine lY (y_add rfl rfl (by omega) (by omega)) rfl ?_
    refine lY (yA rfl) rfl ?_
    refine l_nil (aT (w_seq (wR ?_)))
    refine lY (yM rfl) rfl ?_
    refine lY (y_gt rfl rfl) rfl ?_
    refine l_nil (aT ?_)
    refine w_eq 3 (.int .i64 ((ts.length + lens (ts.take (k + 1)) : Nat) : Int)) rfl (int_eq (by omega)) ?_
    skip
    refine w_cond_d rfl (fun h2 => ?_) (fun h2 => ?_)
    · skip
      refine w_seq (wR ?_)
      refine lY (yA rfl) rfl ?_
      refine l_nil (aT (w_ret (a_block_ret (a_then_ret (a_then_ret (a_block_ret (a_then_ret ?_)))))))
      apply a_ret
      · rfl
      · (apply Rs.tmp rfl; exact Rs.nil)
      · refine ⟨?_, rfl⟩
        have := lens_take_le ts (k + 1)
        rw [decide_eq_true (by omega)]
        rfl
      · (apply ent; (repeat constructor); done)
    · skip
      refine w_skip (a_block (aT (wR ?_)))
      refine lY (y_add rfl rfl (by omega) (by omega)) rfl ?_
      refine lY (yM rfl) rfl ?_
      refine l_nil ?_
      refine wa_eq 10 (.int .i64 ((k + 1 : Nat) : Int)) rfl (int_eq (by omega)) ?_
      refine a_round (k + 1) ⟨by omega, fun _ => by omega⟩ (by omega) ⟨rfl, rfl, rfl, rfl, trivial⟩ ?_
      (apply ent; (repeat constructor); done)
  · skip
    have ek : k = ts.length := by omega
    subst ek
    rw [List.take_length]
    refine w_exit (a_then_exit (a_then_exit (a_block_exit (aT (w_seq (wR ?_))))))
    refine lY (yM rfl) rfl ?_
    refine lY (y_gt rfl rfl) rfl ?_
    refine lY (yA rfl) rfl ?_
    refine l_nil (aT (w_ret ?_))
    apply a_ret
    · rfl
    · (apply Rs.tmp rfl; exact Rs.nil)
    · refine ⟨?_, rfl⟩
      simp only [one]
      congr 1
      exact decide_eq_decide.2 (by omega)
    · (apply ent; (repeat constructor); done)
theorem old_cell {w0 : World} {g o : Nat} {bs : List UInt8} (h : ∀ (i : Nat) (v : Value), (byC bs)[i]? = some v → w0.cell? ⟨g, o + i, none⟩ = some v) {k : Nat} {x : UInt8} (hx : bs[k]? = some x) (j : Nat) (hj : j = o + k) : w0.cell? ⟨g, j, none⟩ = some (.int .u8 (x.toNat : Nat)) := by
  subst hj
  exact h k _ (byC_get hx k rfl)
theorem drop_cons {A : List UInt8} {k : Nat} {x : UInt8} (h : A[k]? = some x) : A.drop k = x :: A.drop (k + 1) := by
  rw [List.drop_eq_getElem_cons (List.getElem?_eq_some_iff.1 h).1, (List.getElem?_eq_some_iff.1 h).2]
theorem ct_refCompare (hE : Seat E) {a b : Option Addr} {A B : List UInt8} {c d : Nat} (ha : Old E.w0 a A) (hb : Old E.w0 b B) (hA : A.length ≤ 140737488355328) (hB : B.length ≤ 140737488355328) :
    Ct E 41 [.slice a A.length c, .slice b B.length d] [] (fun v Q => v = .int .i64 (cmpT A B) ∧ Q = []) := by
  refine fn_enter (hE.fn Tryz.func41) rfl rfl rfl (fun R => ?_)
  simp only [argsL, List.cons_append, List.nil_append]
  refine w_seq (wR ?_)
  refine lY (yA rfl) rfl ?_
  refine l_nil (aT (w_seq (w_seq (wR ?_))))
  refine lY (yA rfl) rfl ?_
  refine l_nil (aT (w_block ?_))
  skip
  refine w_loop (fun k : Nat => [(0, .slice a A.length c), (1, .slice b B.length d), (5, .int .i64 (k : Nat))]) (fun k => [R]) (fun k => A.length - k) (fun k => k ≤ A.length ∧ k ≤ B.length ∧ cmpT A B = cmpT (A.drop k) (B.drop k)) 0 ?_ ?_ ?_ ?_
  · exact ⟨Nat.zero_le _, Nat.zero_le _, rfl⟩
  · exact ⟨rfl, rfl, rfl, trivial⟩
  · (apply ent; (repeat constructor); done)
  rintro k ⟨hk1, hk2, hcm⟩
  skip
  refine w_seq (w_seq (wR ?_))
  refine lY (yM rfl) rfl ?_
  refine lY (yM rfl) rfl ?_
  refine lY (y_len_slice rfl (hE.t rfl)) rfl ?_
  refine lY (y_lt rfl rfl) rfl ?_
  refine lY (yM rfl) rfl ?_
  refine l_split 10 rfl (fun h1 => ?_) (fun h1 => ?_)
  · skip
    refine l_on rfl rfl ?_
    refine lY (yM rfl) rfl ?_
    refine l_on rfl rfl ?_
    refine lY (yM rfl) rfl ?_
    refine l_on rfl rfl ?_
    refine lY (y_len_slice rfl (hE.t rfl)) rfl ?_
    refine l_on rfl rfl ?_
    refine lY (y_lt rfl rfl) rfl ?_
    apply lY
    · (first | exact y_pick_t rfl rfl | exact y_pick_f rfl rfl)
    · rfl
    refine l_nil (aT ?_)
    refine w_cond_d rfl (fun h2 => ?_) (fun h2 => ?_)
    · skip
      have k1 : k < A.length := by omega
      have k2 : k < B.length := by omega
      obtain ⟨x, hx⟩ : ∃ x, A[k]? = some x := ⟨_, List.getElem?_eq_getElem k1⟩
      obtain ⟨y, hy⟩ : ∃ y, B[k]? = some y := ⟨_, List.getElem?_eq_getElem k2⟩
      obtain ⟨g, o, rfl, hg⟩ := ha (by intro e; rw [e] at k1; simp at k1)
      obtain ⟨g', o', rfl, hg'⟩ := hb (by intro e; rw [e] at k2; simp at k2)
      have f0 := old_cell hg hx (o + ((k : Nat) : Int).toNat * 1) (by omega)
      have f1 := old_cell hg' hy (o' + ((k : Nat) : Int).toNat * 1) (by omega)
      rw [drop_cons hx, drop_cons hy] at hcm
      simp only [cmpT] at hcm
      refine w_skip (aT (w_seq (w_block (w_seq (w_seq (w_draws (by kernel_rfl) ?_))))))
      refine lY (yM rfl) rfl ?_
      refine lY (yM rfl) rfl ?_
      apply lY
      · (first | exact y_indexAddr1 rfl rfl (hE.t rfl) (by omega) (by omega) | exact y_indexAddr rfl rfl (hE.t rfl) (by omega) (by omega))
      · rfl
      apply lY
      · (first | (apply y_load rfl (hE.t rfl) rfl; (repeat (first | rfl | assumption | constructor)); done) | exact y_load_old rfl (hE.t rfl) rfl (by assumption) | (apply y_load_ro rfl (hE.t rfl) rfl; (focus ((repeat constructor); done)); (focus assumption)) | (apply y_load_q rfl (hE.t rfl) rfl (by assumption); (focus ((repeat constructor); done)); (first | ((focus exact f0); (focus omega)) | ((focus exact f1); (focus omega)) | ((focus assumption); (focus omega)))))
      · rfl
      refine lY (yM rfl) rfl ?_
      refine lY (yM rfl) rfl ?_
      apply lY
      · (first | exact y_indexAddr1 rfl rfl (hE.t rfl) (by omega) (by omega) | exact y_indexAddr rfl rfl (hE.t rfl) (by omega) (by omega))
      · rfl
      apply lY
      · (first | (apply y_load rfl (hE.t rfl) rfl; (repeat (first | rfl | assumption | constructor)); done) | exact y_load_old rfl (hE.t rfl) rfl (by assumption) | (apply y_load_ro rfl (hE.t rfl) rfl; (focus ((repeat constructor); done)); (focus assumption)) | (apply y_load_q rfl (hE.t rfl) rfl (by assumption); (focus ((repeat constructor); done)); (first | ((focus exact f0); (focus omega)) | ((focus exact f1); (focus omega)) | ((focus assumption); (focus omega)))))
      · rfl
      refine lY (y_lt rfl rfl) rfl ?_
      refine l_nil (aT ?_)
      refine w_cond_d rfl (fun h3 => ?_) (fun h3 => ?_)
      · skip
        refine w_seq (wR ?_)
        refine lY (yA rfl) rfl ?_
        refine l_nil (aT (w_ret (a_then_ret (a_block_ret (a_then_ret (a_then_ret (a_block_ret ?_)))))))
        refine a_then_ret ?_
        apply a_ret
        · rfl
        · (apply Rs.tmp rfl; exact Rs.nil)
        · exact ⟨by rw [hcm, if_pos (by omega)]; rfl, rfl⟩
        · (apply ent; (repeat constructor); done)
      skip
      rw [if_neg (by omega)] at hcm
      refine w_skip (aT (w_seq (w_draws (by kernel_rfl) ?_)))
      refine lY (yM rfl) rfl ?_
      refine lY (yM rfl) rfl ?_
      apply lY
      · (first | exact y_indexAddr1 rfl rfl (hE.t rfl) (by omega) (by omega) | exact y_indexAddr rfl rfl (hE.t rfl) (by omega) (by omega))
      · rfl
      apply lY
      · (first | (apply y_load rfl (hE.t rfl) rfl; (repeat (first | rfl | assumption | constructor)); done) | exact y_load_old rfl (hE.t rfl) rfl (by assumption) | (apply y_load_ro rfl (hE.t rfl) rfl; (focus ((repeat constructor); done)); (focus assumption)) | (apply y_load_q rfl (hE.t rfl) rfl (by assumption); (focus ((repeat constructor); done)); (first | ((focus exact f0); (focus omega)) | ((focus exact f1); (focus omega)) | ((focus assumption); (focus omega)))))
      · rfl
      refine lY (yM rfl) rfl ?_
      refine lY (yM rfl) rfl ?_
      apply lY
      · (first | exact y_indexAddr1 rfl rfl (hE.t rfl) (by omega) (by omega) | exact y_indexAddr rfl rfl (hE.t rfl) (by omega) (by omega))
      · rfl
      apply lY
      · (first | (apply y_load rfl (hE.t rfl) rfl; (repeat (first | rfl | assumption | constructor)); done) | exact y_load_old rfl (hE.t rfl) rfl (by assumption) | (apply y_load_ro rfl (hE.t rfl) rfl; (focus ((repeat constructor); done)); (focus assumption)) | (apply y_load_q rfl (hE.t rfl) rfl (by assumption); (focus ((repeat constructor); done)); (first | ((focus exact f0); (focus omega)) | ((focus exact f1); (focus omega)) | ((focus assumption); (focus omega)))))
      · rfl
      refine lY (y_gt rfl rfl) rfl ?_
      refine l_nil (aT ?_)
      refine w_cond_d rfl (fun h4 => ?_) (fun h4 => ?_)
      · skip
        refine w_seq (wR ?_)
        refine lY (yA rfl) rfl ?_
        refine l_nil (aT (w_ret (a_block_ret (a_then_ret (a_then_ret (a_block_ret (a_then_ret ?_)))))))
        apply a_ret
        · rfl
        · (apply Rs.tmp rfl; exact Rs.nil)
        · exact ⟨by rw [hcm, if_pos (by omega)]; rfl, rfl⟩
        · (apply ent; (repeat constructor); done)
      skip
      rw [if_neg (by omega)] at hcm
      refine w_skip (a_block (aT (wR ?_)))
      refine lY (yM rfl) rfl ?_
      refine lY (y_add rfl rfl (by omega) (by omega)) rfl ?_
      refine lY (yA rfl) rfl ?_
      refine l_nil ?_
      refine wa_eq 5 (.int .i64 ((k + 1 : Nat) : Int)) rfl (int_eq (by omega)) ?_
      refine a_round (k + 1) ⟨by omega, by omega, hcm⟩ (by omega) ⟨rfl, rfl, rfl, trivial⟩ ?_
      (apply ent; (repeat constructor); done)
    · skip
      refine w_exit (a_then_exit (a_then_exit (a_block_exit (aT (w_seq (w_seq (wR ?_)))))))
      refine lY (yM rfl) rfl ?_
      refine lY (y_len_slice rfl (hE.t rfl)) rfl ?_
      refine lY (yM rfl) rfl ?_
      refine lY (y_len_slice rfl (hE.t rfl)) rfl ?_
      refine lY (y_lt rfl rfl) rfl ?_
      refine l_nil (aT ?_)
      have hend : cmpT A B = cmpN A.length B.length := by
        rw [hcm]
        by_cases e : k = A.length
        · rw [show A.drop k = [] from List.drop_eq_nil_of_le (by omega)]
          cases hd : B.drop k with
          | nil => have := congrArg List.length hd; rw [List.length_drop] at this; simp at this; simp only [cmpT, cmpN]; rw [if_neg (by omega), if_neg (by omega)]
          | cons z l => have := congrArg List.length hd; rw [List.length_drop] at this; simp at this; simp only [cmpT, cmpN]; rw [if_pos (by omega)]
        · rw [show B.drop k = [] from List.drop_eq_nil_of_le (by omega)]
          cases hd : A.drop k with
          | nil => have := congrArg List.length hd; rw [List.length_drop] at this; simp at this; omega
          | cons z l => simp only [cmpT, cmpN]; rw [if_neg (by omega), if_pos (by omega)]
      unfold cmpN at hend
      refine w_cond_d rfl (fun h5 => ?_) (fun h5 => ?_)
      · skip
        refine w_seq (wR ?_)
        refine lY (yA rfl) rfl ?_
        refine l_nil (aT (w_ret (a_then_ret ?_)))
        apply a_ret
        · rfl
        · (apply Rs.tmp rfl; exact Rs.nil)
        · exact ⟨by rw [hend, if_pos (by omega)]; rfl, rfl⟩
        · (apply ent; (repeat constructor); done)
      skip
      rw [if_neg (by omega)] at hend
      refine w_skip (aT (w_seq (w_seq (wR ?_))))
      refine lY (yM rfl) rfl ?_
      refine lY (y_len_slice rfl (hE.t rfl)) rfl ?_
      refine lY (yM rfl) rfl ?_
      refine lY (y_len_slice rfl (hE.t rfl)) rfl ?_
      refine lY (y_gt rfl rfl) rfl ?_
      refine l_nil (aT ?_)
      refine w_cond_d rfl (fun h6 => ?_) (fun h6 => ?_)
      · skip
        refine w_seq (wR ?_)
        refine lY (yA rfl) rfl ?_
        refine l_nil (aT (w_ret (a_then_ret ?_)))
        apply a_ret
        · rfl
        · (apply Rs.tmp rfl; exact Rs.nil)
        · exact ⟨by rw [hend, if_pos (by omega)]; rfl, rfl⟩
        · (apply ent; (repeat constructor); done)
      skip
      rw [if_neg (by omega)] at hend
      refine w_skip (aT (w_seq (wR ?_)))
      refine lY (yA rfl) rfl ?_
      refine l_nil (aT (w_ret ?_))
      apply a_ret
      · rfl
      · (apply Rs.tmp rfl; exact Rs.nil)
      · exact ⟨by rw [hend]; rfl, rfl⟩
      · (apply ent; (repeat constructor); done)
  · skip
    refine l_off rfl rfl rfl rfl (l_off rfl rfl rfl rfl (l_off rfl rfl rfl rfl (l_off rfl rfl rfl rfl ?_)))
    apply lY
    · (first | exact y_pick_t rfl rfl | exact y_pick_f rfl rfl)
    · rfl
    refine l_nil (aT ?_)
    refine w_cond_f rfl ?_
    refine w_exit (a_then_exit (a_then_exit (a_block_exit (aT (w_seq (w_seq (wR ?_)))))))
    refine lY (yM rfl) rfl ?_
    refine lY (y_len_slice rfl (hE.t rfl)) rfl ?_
    refine lY (yM rfl) rfl ?_
    refine lY (y_len_slice rfl (hE.t rfl)) rfl ?_
    refine lY (y_lt rfl rfl) rfl ?_
    refine l_nil (aT ?_)
    have hend : cmpT A B = cmpN A.length B.length := by
      rw [hcm]
      by_cases e : k = A.length
      · rw [show A.drop k = [] from List.drop_eq_nil_of_le (by omega)]
        cases hd : B.drop k with
        | nil => have := congrArg List.length hd; rw [List.length_drop] at this; simp at this; simp only [cmpT, cmpN]; rw [if_neg (by omega), if_neg (by omega)]
        | cons z l => have := congrArg List.length hd; rw [List.length_drop] at this; simp at this; simp only [cmpT, cmpN]; rw [if_pos (by omega)]
      · rw [show B.drop k = [] from List.drop_eq_nil_of_le (by omega)]
        cases hd : A.drop k with
        | nil => have := congrArg List.length hd; rw [List.length_drop] at this; simp at this; omega
        | cons z l => simp only [cmpT, cmpN]; rw [if_neg (by omega), if_pos (by omega)]
    unfold cmpN at hend
    refine w_cond_d rfl (fun h5 => ?_) (fun h5 => ?_)
    · skip
      refine w_seq (wR ?_)
      refine lY (yA rfl) rfl ?_
      refine l_nil (aT (w_ret (a_then_ret ?_)))
      apply a_ret
      · rfl
      · (apply Rs.tmp rfl; exact Rs.nil)
      · exact ⟨by rw [hend, if_pos (by omega)]; rfl, rfl⟩
      · (apply ent; (repeat constructor); done)
    skip
    rw [if_neg (by omega)] at hend
    refine w_skip (aT (w_seq (w_seq (wR ?_))))
    refine lY (yM rfl) rfl ?_
    refine lY (y_len_slice rfl (hE.t rfl)) rfl ?_
    refine lY (yM rfl) rfl ?_
    refine lY (y_len_slice rfl (hE.t rfl)) rfl ?_
    refine lY (y_gt rfl rfl) rfl ?_
    refine l_nil (aT ?_)
    refine w_cond_d rfl (fun h6 => ?_) (fun h6 => ?_)
    · skip
      refine w_seq (wR ?_)
      refine lY (yA rfl) rfl ?_
      refine l_nil (aT (w_ret (a_then_ret ?_)))
      apply a_ret
      · rfl
      · (apply Rs.tmp rfl; exact Rs.nil)
      · exact ⟨by rw [hend, if_pos (by omega)]; rfl, rfl⟩
      · (apply ent; (repeat constructor); done)
    skip
    rw [if_neg (by omega)] at hend
    refine w_skip (aT (w_seq (wR ?_)))
    refine lY (yA rfl) rfl ?_
    refine l_nil (aT (w_ret ?_))
    apply a_ret
    · rfl
    · (apply Rs.tmp rfl; exact Rs.nil)
    · exact ⟨by rw [hend]; rfl, rfl⟩
    · (apply ent; (repeat constructor); done)
end Go.Proofs.YtekhbjlplfbdkaaGreatDoor
namespace Go.Proofs.YtekhbjlplfbdkaaGreatDoor
open Go Go.RowKit Sl Eg
set_option maxRecDepth 10000
variable {E : Env} {Es : List Ent} {pp tb s most : Nat}
structure Sgs (L : List Rl) (ts : List Tx) (ids : List Nat) : Prop where
  len : ids.length = ts.length
  at_ : ∀ (k : Nat) (t : Tx) (x : Nat), ts[k]? = some t → ids[k]? = some x → txt L x = t.bs ∧ good L x ∧ Sg L t.bs x
theorem good_more {L : List Rl} (M : List Rl) {i : Nat} (h : good L i) : good (L ++ M) i := ⟨by have := h.1; rw [List.length_append]; omega, by rw [lvl_ext _ h.1]; exact h.2⟩
theorem Sgs.ext {L : List Rl} (M : List Rl) {ts : List Tx} {ids : List Nat} (h : Sgs L ts ids) : Sgs (L ++ M) ts ids := ⟨h.len, fun k t x h1 h2 => by
  obtain ⟨a, b, c⟩ := h.at_ k t x h1 h2
  exact ⟨by rw [txt_ext _ b.1]; exact a, good_more M b, c.ext M⟩⟩
theorem Sgs.snoc {L : List Rl} {ts : List Tx} {ids : List Nat} {t : Tx} {x : Nat} (h : Sgs L ts ids) (h1 : txt L x = t.bs) (h2 : good L x) (h3 : Sg L t.bs x) : Sgs L (ts ++ [t]) (ids ++ [x]) := ⟨by simp [h.len], fun k u y hu hy => by
  by_cases hk : k < ts.length
  · rw [List.getElem?_append_left hk] at hu
    rw [List.getElem?_append_left (by rw [h.len]; exact hk)] at hy
    exact h.at_ k u y hu hy
  · have hl := (List.getElem?_eq_some_iff.1 hu).1
    simp at hl
    obtain rfl : k = ts.length := by omega
    simp at hu
    rw [← h.len] at hy
    simp at hy
    subst hu hy
    exact ⟨h1, h2, h3⟩⟩
theorem lit6 : cmpT [98] [97, 98] = 1 := by decide
structure BgG where
  M : List Ent
  ids : List Nat
  p : Option Addr
  c : Nat
theorem ct_begun (hE : Seat E) (hB : Base E.w0) {ts : List Tx} {A : Option Addr} {C : Nat} {q : HP} (hq : Rdb E.w0 A (ts.map txV) q) (hok : ∀ t ∈ ts, OkT E.w0 t) (hn : ts.length + lens ts ≤ 2000) :
    Ct E 16 [.slice A ts.length C] [q] (fun v Q => ∃ pp s tb M ids p c, v = .tuple #[.pointer (some ⟨pp, 0, none⟩), .slice p ids.length c, .bool true] ∧ M.length ≤ 8 + 2 * lens ts ∧ Sgs (rls M) ts ids ∧ Q = [cells pp [.pointer (some ⟨s, 0, none⟩), .pointer (some ⟨tb, 0, none⟩)] 59, tabP tb s (rls M), storeP s 1048576 M, sl p c 27 1 ids.length (idC ids), q]) := by
  refine fn_enter (hE.fn Tryz.func16) rfl rfl rfl (fun R => ?_)
  simp only [argsL, List.cons_append, List.nil_append]
  refine w_seq (wR ?_)
  refine lY (yA rfl) rfl ?_
  refine lY (yA rfl) rfl ?_
  refine lY (yA rfl) rfl ?_
  refine l_nil (aT (w_seq (wR ?_)))
  apply lL (by kernel_rfl) rfl
  apply ld_call (ct_intNew (most := 1048576) hE (Nat.le_refl _)) rfl (hE.f (by kernel_rfl))
  · ((repeat constructor); done)
  rintro _ _ ⟨s, rfl, rfl⟩
  simp only [List.cons_append, List.nil_append]
  skip
  apply lL (by kernel_rfl) rfl
  apply ld_call (ct_sigNew hE) rfl (hE.f (by kernel_rfl))
  · ((repeat constructor); done)
  rintro _ _ ⟨pp, tb, rfl, rfl⟩
  simp only [List.cons_append, List.nil_append]
  refine lY (yA rfl) rfl ?_
  refine l_nil (aT (w_seq (wR ?_)))
  refine lY (yM rfl) rfl ?_
  apply lL (by kernel_rfl) rfl
  refine ld_buildSlice (hE.t rfl) (hE.t rfl) rfl rfl rfl (fun b21 => ?_)
  apply lL (by kernel_rfl) rfl
  refine ld_mark rfl (hE.t rfl) (hE.t rfl) (by ((repeat constructor); done)) ?_
  skip
  have n1 : ([97, 98] : List UInt8).length ≤ 65536 := by decide
  have r1 : ([] : List Ent).length + 2 * ([97, 98] : List UInt8).length ≤ 1048576 := by decide
  apply lL (by kernel_rfl) rfl
  apply ld_call (ct_Of (bs := [97, 98]) hE hB n1 r1) rfl (hE.f (by kernel_rfl))
  · ((repeat constructor); done)
  rintro _ _ ⟨M1, x, rfl, hM1, tx1, gx, -, rfl⟩
  simp only [List.cons_append, List.nil_append]
  refine lY (yM rfl) rfl ?_
  refine lY (y_extract rfl rfl) rfl ?_
  refine lY (y_extract rfl rfl) rfl ?_
  refine lY (yA rfl) rfl ?_
  refine lY (yA rfl) rfl ?_
  refine l_nil (aT (w_seq (wR ?_)))
  refine lY (yM rfl) rfl ?_
  apply lL (by kernel_rfl) rfl
  refine ld_buildSlice (hE.t rfl) (hE.t rfl) rfl rfl rfl (fun b28 => ?_)
  apply lL (by kernel_rfl) rfl
  refine ld_mark rfl (hE.t rfl) (hE.t rfl) (by ((repeat constructor); done)) ?_
  skip
  have n2 : ([98] : List UInt8).length ≤ 65536 := by decide
  have r2 : ([] ++ M1 : List Ent).length + 2 * ([98] : List UInt8).length ≤ 1048576 := by simp at hM1 ⊢; omega
  apply lL (by kernel_rfl) rfl
  apply ld_call (ct_Of (bs := [98]) hE hB n2 r2) rfl (hE.f (by kernel_rfl))
  · ((repeat constructor); done)
  rintro _ _ ⟨M2, y, rfl, hM2, ty1, gy, -, rfl⟩
  simp only [List.cons_append, List.nil_append]
  simp only [List.nil_append] at tx1 gx ty1 gy
  have gx' : good (rls (M1 ++ M2)) x := by rw [rls_append]; exact good_more _ gx
  have tx2 : txt (rls (M1 ++ M2)) x = [97, 98] := by rw [rls_append, txt_ext _ gx.1]; exact tx1
  have lx : len (rls (M1 ++ M2)) x = 2 := by unfold len; rw [tx2]; rfl
  have ly : len (rls (M1 ++ M2)) y = 1 := by unfold len; rw [ty1]; rfl
  have hMM : (M1 ++ M2 : List Ent).length ≤ 8 := by simp at hM1 hM2 ⊢; omega
  refine lY (yM rfl) rfl ?_
  refine lY (y_extract rfl rfl) rfl ?_
  refine lY (y_extract rfl rfl) rfl ?_
  refine lY (yA rfl) rfl ?_
  refine lY (yA rfl) rfl ?_
  refine l_nil (aT (w_seq (wR ?_)))
  refine lY (yM rfl) rfl ?_
  refine lY (yM rfl) rfl ?_
  refine lY (yM rfl) rfl ?_
  apply lL (by kernel_rfl) rfl
  apply ld_call (ct_Compare hE hB gy gx' (by omega)) rfl (hE.f (by kernel_rfl))
  · ((repeat constructor); done)
  rintro _ _ ⟨rfl, rfl⟩
  rw [tx2, ty1, lit6]
  simp only [List.cons_append, List.nil_append]
  refine lY (yM rfl) rfl ?_
  refine lY (y_extract rfl rfl) rfl ?_
  refine lY (y_extract rfl rfl) rfl ?_
  refine lY (yA rfl) rfl ?_
  refine lY (yA rfl) rfl ?_
  refine l_nil (aT (w_seq (w_seq (wR ?_))))
  refine lY (yM rfl) rfl ?_
  apply lY
  · (first | exact y_eq_ptr rfl (hE.t rfl) | exact y_eq_nil rfl (hE.t rfl))
  · rfl
  refine lY (yM rfl) rfl ?_
  skip
  refine l_on rfl rfl ?_
  refine lY (yM rfl) rfl ?_
  refine l_on rfl rfl ?_
  apply lY
  · (first | exact y_ok_ne rfl (hE.t rfl) | exact y_err_ne rfl (hE.t rfl))
  · rfl
  apply lY
  · (first | exact y_pick_t rfl rfl | exact y_pick_f rfl rfl)
  · rfl
  refine lY (yM rfl) rfl ?_
  skip
  refine l_on rfl rfl ?_
  refine lY (yM rfl) rfl ?_
  refine l_on rfl rfl ?_
  apply lY
  · (first | exact y_ok_ne rfl (hE.t rfl) | exact y_err_ne rfl (hE.t rfl))
  · rfl
  apply lY
  · (first | exact y_pick_t rfl rfl | exact y_pick_f rfl rfl)
  · rfl
  refine lY (yM rfl) rfl ?_
  skip
  refine l_on rfl rfl ?_
  refine lY (yM rfl) rfl ?_
  refine l_on rfl rfl ?_
  apply lY
  · (first | exact y_ok_ne rfl (hE.t rfl) | exact y_err_ne rfl (hE.t rfl))
  · rfl
  apply lY
  · (first | exact y_pick_t rfl rfl | exact y_pick_f rfl rfl)
  · rfl
  refine lY (yM rfl) rfl ?_
  skip
  refine l_on rfl rfl ?_
  refine lY (yM rfl) rfl ?_
  refine l_on rfl rfl ?_
  refine lY (y_ne rfl rfl) rfl ?_
  apply lY
  · (first | exact y_pick_t rfl rfl | exact y_pick_f rfl rfl)
  · rfl
  refine l_nil (aT ?_)
  refine w_cond_f rfl ?_
  refine w_skip (aT (w_seq (wR ?_)))
  refine lY (yA rfl) rfl ?_
  refine l_nil (aT (w_seq (w_seq (wR ?_))))
  refine lY (yM rfl) rfl ?_
  refine lY (y_len_slice rfl (hE.t rfl)) rfl ?_
  refine lY (yM rfl) rfl ?_
  refine l_nil (aT (w_block ?_))
  skip
  refine w_loop (fun x : BgG => [(5, .pointer (some ⟨pp, 0, none⟩)), (12, .slice x.p x.ids.length x.c), (58, .slice A ts.length C), (59, .int .i64 (ts.length : Nat)), (60, .int .i64 (x.ids.length : Nat))]) (fun x => [cells pp [.pointer (some ⟨s, 0, none⟩), .pointer (some ⟨tb, 0, none⟩)] 59, tabP tb s (rls x.M), storeP s 1048576 x.M, sl x.p x.c 27 1 x.ids.length (idC x.ids), q, R]) (fun x => ts.length - x.ids.length)
    (fun x => x.ids.length ≤ ts.length ∧ x.M.length ≤ 8 + 2 * lens (ts.take x.ids.length) ∧ Sgs (rls x.M) (ts.take x.ids.length) x.ids) ⟨M1 ++ M2, [], none, 0⟩ ?_ ?_ ?_ ?_
  · exact ⟨Nat.zero_le _, by simp [lens] at hMM ⊢; exact hMM, ⟨rfl, fun k t x h => by simp at h⟩⟩
  · exact ⟨rfl, rfl, rfl, rfl, rfl, trivial⟩
  · apply ent_trans (ent_nil (t := 27) (sz := 1))
    (apply ent; (repeat constructor); done)
  clear tx1 tx2 ty1 lx ly hMM gx gx' gy hM1 hM2
  rintro ⟨M, ids, p, c⟩ ⟨hle, hM, hsg⟩
  simp only at hle hM hsg ⊢
  skip
  refine w_seq (wR ?_)
  refine lY (y_lt rfl rfl) rfl ?_
  refine l_nil (aT (w_seq ?_))
  refine w_cond_d rfl (fun h1 => ?_) (fun h1 => ?_)
  · skip
    have hkl : ids.length < ts.length := by omega
    obtain ⟨g, o, rfl, hqq⟩ := hq (by intro e; rw [List.map_eq_nil_iff] at e; rw [e] at hkl; simp at hkl)
    obtain ⟨t, ht⟩ : ∃ t, ts[ids.length]? = some t := ⟨_, List.getElem?_eq_getElem hkl⟩
    have f0 := txV_get ht
    have hmem := List.mem_of_getElem? ht
    have hot := hok t hmem
    have hl := lens_take ht
    have htl := len_le_lens hmem
    have hle2 := lens_take_le ts ids.length
    have hle3 := lens_take_le ts (ids.length + 1)
    have et : ts.take (ids.length + 1) = ts.take ids.length ++ [t] := by rw [List.take_add_one, ht]; rfl
    refine w_skip (aT (w_seq (w_block (w_seq (wR ?_)))))
    apply lY
    · (first | exact y_indexAddr1 rfl rfl (hE.t rfl) (by omega) (by omega) | exact y_indexAddr rfl rfl (hE.t rfl) (by omega) (by omega))
    · rfl
    apply lY
    · (first | (apply y_load rfl (hE.t rfl) rfl; (repeat (first | rfl | assumption | constructor)); done) | exact y_load_old rfl (hE.t rfl) rfl (by assumption) | (apply y_load_ro rfl (hE.t rfl) rfl; (focus ((repeat constructor); done)); (focus assumption)) | (apply y_load_q rfl (hE.t rfl) rfl (by assumption); (focus ((repeat constructor); done)); (first | ((focus exact f0); (focus omega)) | ((focus exact f1); (focus omega)) | ((focus assumption); (focus omega)))))
    · rfl
    refine lY (yA rfl) rfl ?_
    refine l_nil (aT (w_seq (wR ?_)))
    refine lY (yM rfl) rfl ?_
    refine lY (yM rfl) rfl ?_
    refine l_heap ent_old ?_
    apply lL (by kernel_rfl) rfl
    apply ld_call (ct_OfQ (Es := M) (most := 1048576) (bs := t.bs) hE hB hot.1.rd (by omega) (by omega)) rfl (hE.f (by kernel_rfl))
    · ((repeat constructor); done)
    rintro _ _ ⟨M3, id, rfl, hM3, tx3, g3, s3, rfl⟩
    have hsg2 : Sgs (rls (M ++ M3)) (ts.take (ids ++ [id]).length) (ids ++ [id]) := by
      rw [show (ids ++ [id]).length = ids.length + 1 by simp, et]
      refine Sgs.snoc ?_ tx3 g3 s3
      rw [rls_append]
      exact hsg.ext _
    simp only [List.cons_append, List.nil_append]
    refine lY (yM rfl) rfl ?_
    refine lY (y_extract rfl rfl) rfl ?_
    refine lY (y_extract rfl rfl) rfl ?_
    refine lY (yA rfl) rfl ?_
    refine lY (yA rfl) rfl ?_
    refine l_nil (aT (w_seq (w_seq (wR ?_))))
    refine lY (yM rfl) rfl ?_
    apply lY
    · (first | exact y_ok_ne rfl (hE.t rfl) | exact y_err_ne rfl (hE.t rfl))
    · rfl
    refine l_nil (aT ?_)
    refine w_cond_f rfl ?_
    refine w_skip (aT (wR ?_))
    refine lY (yM rfl) rfl ?_
    refine lY (yM rfl) rfl ?_
    apply lL (by kernel_rfl) rfl
    refine ld_buildSlice (hE.t rfl) (hE.t rfl) rfl rfl rfl (fun b74 => ?_)
    apply lL (by kernel_rfl) rfl
    apply ld_append (hE.t rfl) (hE.t rfl) rfl rfl rfl
    · ((repeat constructor); done)
    · ((repeat constructor); done)
    · rfl
    · rfl
    · omega
    · omega
    · (unfold maxLen; omega)
    intro g75 c75 n75 x75 hn75 hx75
    refine lY (yA rfl) rfl ?_
    refine l_nil (a_block (aT (wR ?_)))
    refine lY (y_add rfl rfl (by omega) (by omega)) rfl ?_
    refine lY (yM rfl) rfl ?_
    refine l_nil ?_
    obtain rfl : n75 = (ids ++ [id]).length := by rw [hn75]; simp
    obtain rfl : x75 = idC (ids ++ [id]) := by rw [hx75]; show idC ids ++ [Value.int .i64 (id : Nat)] = _; simp [idC]
    refine wa_eq 60 (.int .i64 ((ids ++ [id]).length : Nat)) rfl (int_eq (by simp)) ?_
    refine a_round (ι := BgG) (j := ⟨M ++ M3, ids ++ [id], some ⟨g75, 0, none⟩, c75⟩) ⟨?_, ?_, hsg2⟩ ?_ ⟨rfl, rfl, rfl, rfl, rfl, trivial⟩ ?_
    · simp; omega
    · rw [show (ids ++ [id]).length = ids.length + 1 by simp]; simp; omega
    · show ts.length - (ids ++ [id]).length < ts.length - ids.length
      simp; omega
    · (apply ent; (repeat constructor); done)
  · skip
    have ek : ids.length = ts.length := by omega
    rw [ek, List.take_length] at hsg hM
    refine w_exit (a_then_exit (a_then_exit (a_block_exit (aT (w_seq (wR ?_))))))
    refine lY (yM rfl) rfl ?_
    refine lY (yM rfl) rfl ?_
    refine lY (yA rfl) rfl ?_
    refine lY (yA rfl) rfl ?_
    refine lY (yA rfl) rfl ?_
    refine l_nil (aT (w_ret ?_))
    apply a_ret
    · rfl
    · (apply Rs.tmp rfl; apply Rs.tmp rfl; apply Rs.tmp rfl; exact Rs.nil)
    · exact ⟨pp, s, tb, M, ids, p, c, rfl, hM, hsg, rfl⟩
    · (apply ent; (repeat constructor); done)
end Go.Proofs.YtekhbjlplfbdkaaGreatDoor
namespace Go.Proofs.YtekhbjlplfbdkaaGreatDoor
open Go Go.RowKit Sl Eg
set_option maxRecDepth 10000
variable {E : Env} {Es : List Ent} {pp tb s most : Nat}
theorem Old.take {w0 : World} {a : Option Addr} {bs : List UInt8} (h : Old w0 a bs) (n : Nat) : Old w0 a (bs.take n) := fun hb => by
  obtain ⟨g, o, h1, h2⟩ := h (by rintro rfl; simp at hb)
  refine ⟨g, o, h1, fun i v hv => h2 i v ?_⟩
  unfold byC at hv ⊢
  rw [List.map_take, List.getElem?_take] at hv
  split at hv
  · exact hv
  · cases hv
theorem Old.drop {w0 : World} {g o : Nat} {bs : List UInt8} (h : Old w0 (some ⟨g, o, none⟩) bs) (n : Nat) : Old w0 (some ⟨g, o + n, none⟩) (bs.drop n) := fun hb => by
  obtain ⟨g', o', h1, h2⟩ := h (by rintro rfl; simp at hb)
  cases h1
  refine ⟨g, o + n, rfl, fun i v hv => ?_⟩
  unfold byC at hv h2
  rw [List.map_drop, List.getElem?_drop] at hv
  rw [Nat.add_assoc]
  exact h2 _ v hv
theorem Old.part {w0 : World} {p : Option Addr} {bs : List UInt8} {c l : Nat} (h : Old w0 p bs) (hc : bs.length ≤ c) : Old w0 (if c = l then p else p.map (·.add (l * 1))) (bs.drop l) := by
  by_cases e : c = l
  · intro hb
    exact absurd (List.drop_eq_nil_of_le (by omega)) hb
  · rw [if_neg e]
    intro hb
    obtain ⟨g, o, h1, h2⟩ := h (by rintro rfl; simp at hb)
    subst h1
    have := Old.drop (w0 := w0) (g := g) (o := o) (bs := bs) (fun _ => ⟨g, o, rfl, h2⟩) l hb
    obtain ⟨g', o', e1, e2⟩ := this
    cases e1
    refine ⟨g, o + l, ?_, e2⟩
    simp only [Option.map_some, Nat.mul_one, Addr.add]
    split
    · rename_i hl; subst hl; rfl
    · rfl
end Go.Proofs.YtekhbjlplfbdkaaGreatDoor
