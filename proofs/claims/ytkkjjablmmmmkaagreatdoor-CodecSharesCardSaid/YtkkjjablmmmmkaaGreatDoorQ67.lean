/- Plain: signatures of lists; what CodecShares compares. -/
import Derived.Test.YtkkjjablmmmmkaaGreatDoorQ65
import Derived.Test.YtkkjjablmmmmkaaGreatDoorQ66
import Derived.Test.YtkkjjablmmmmkaaGreatDoorQClc
import Derived.Deep.SlicePairs
set_option linter.unusedVariables false
set_option linter.unusedSimpArgs false
namespace Go.Proofs.YtkkjjablmmmmkaaGreatDoor
open Go Go.RowKit Sl Eg
set_option maxRecDepth 10000
variable {E : Env} {Es : List Ent} {pp tb s most m bm : Nat} {f : Int → Option Value}
theorem SigOf.fn {L : List Rl} (hw : Wf L) {x y y' : Nat} (h : SigOf L x y) (h' : SigOf L x y') : y = y' := Sg.fn hw h.2.2.2 h'.2.2.2
theorem SigL.fn {L : List Rl} (hw : Wf L) {xs ys ys' : List Nat} (h : SigL L xs ys) (h' : SigL L xs ys') (hl : ys.length = xs.length) (hl' : ys'.length = xs.length) : ys = ys' := by
  apply List.ext_getElem?
  intro i
  rcases Nat.lt_or_ge i xs.length with hi | hi
  · obtain ⟨x, hx⟩ : ∃ x, xs[i]? = some x := ⟨_, List.getElem?_eq_getElem hi⟩
    obtain ⟨y, hy⟩ : ∃ y, ys[i]? = some y := ⟨_, List.getElem?_eq_getElem (by omega)⟩
    obtain ⟨y', hy'⟩ : ∃ y, ys'[i]? = some y := ⟨_, List.getElem?_eq_getElem (by omega)⟩
    rw [hy, hy', (h i x y hx hy).fn hw (h' i x y' hx hy')]
  · rw [List.getElem?_eq_none (by omega), List.getElem?_eq_none (by omega)]
theorem SigL.app {L : List Rl} {xs ys xs' ys' : List Nat} (h : SigL L xs ys) (h' : SigL L xs' ys') (hl : ys.length = xs.length) : SigL L (xs ++ xs') (ys ++ ys') := fun i x y hx hy => by
  rcases Nat.lt_or_ge i xs.length with hi | hi
  · rw [List.getElem?_append_left hi] at hx
    rw [List.getElem?_append_left (by omega)] at hy
    exact h i x y hx hy
  · rw [List.getElem?_append_right hi] at hx
    rw [List.getElem?_append_right (by omega), hl] at hy
    exact h' _ x y hx hy
theorem SigL.bound {L : List Rl} {xs ys : List Nat} (h : SigL L xs ys) (hl : ys.length = xs.length) : ∀ y ∈ ys, y ≤ L.length := fun y hy => by
  obtain ⟨i, hi⟩ := List.getElem?_of_mem hy
  have hil := (List.getElem?_eq_some_iff.1 hi).1
  obtain ⟨x, hx⟩ : ∃ x, xs[i]? = some x := ⟨_, List.getElem?_eq_getElem (by omega)⟩
  exact (h i x y hx hi).2.2.1.1
theorem shares_plain {L : List Rl} (hw : Wf L) {ids y1 y2 y3 y4 : List Nat} {t x : Nat} (hx : ids[t]? = some x) (h1 : SigL L ids y1) (l1 : y1.length = ids.length) (h2 : SigL L (ids.take t) y2) (l2 : y2.length = (ids.take t).length) (h3 : SigL L (ids.drop t) y3) (l3 : y3.length = (ids.drop t).length) (h4 : SigL L (ids ++ [x]) y4) (l4 : y4.length = (ids ++ [x]).length) :
    (visits L y4 []).length = (visits L y1 []).length ∧ (visits L y2 []).length ≤ (visits L y1 []).length ∧ (visits L y3 []).length ≤ (visits L y1 []).length ∧ (visits L y1 []).length ≤ (visits L y2 []).length + (visits L y3 []).length := by
  have e1 : y1 = y2 ++ y3 := by
    have h := SigL.app h2 h3 l2
    rw [List.take_append_drop] at h
    exact h1.fn hw h l1 (by rw [List.length_append, l2, l3, ← List.length_append, List.take_append_drop])
  obtain ⟨y, hy⟩ : ∃ y, y1[t]? = some y := ⟨_, List.getElem?_eq_getElem (by have := (List.getElem?_eq_some_iff.1 hx).1; omega)⟩
  have e4 : y4 = y1 ++ [y] := by
    have hxy : SigL L [x] [y] := fun i x' y' hx' hy' => by
      cases i with
      | zero => simp at hx' hy'; subst hx' hy'; exact h1 t _ _ hx hy
      | succ i => simp at hx'
    exact h4.fn hw (SigL.app h1 hxy l1) l4 (by simp [l1])
  have hb3 := h3.bound l3
  have hym := List.mem_of_getElem? hy
  refine ⟨by rw [e4, visits_again hw hym (h1.bound l1 y hym)], ?_⟩
  have := visits_sum hw y2 y3 hb3
  rw [← e1] at this
  exact this
def TxOk (Es : List Ent) (l : List (List UInt8 × Int)) : Prop := ∀ p ∈ l, ∃ id : Nat, p.2 = (id : Int) ∧ id ≤ Es.length ∧ len (rls Es) id ≤ 60
theorem TxOk.ext {l : List (List UInt8 × Int)} (h : TxOk Es l) (M : List Ent) : TxOk (Es ++ M) l := fun p hp => by
  obtain ⟨id, h1, h2, h3⟩ := h p hp
  refine ⟨id, h1, by rw [List.length_append]; omega, ?_⟩
  unfold len
  rw [rls_append, txt_ext _ (by rw [rls_length]; exact h2)]
  exact h3
theorem TxOk.sub {l l' : List (List UInt8 × Int)} (h : TxOk Es l) (hs : ∀ p ∈ l', p ∈ l) : TxOk Es l' := fun p hp => h p (hs p hp)
theorem TxOk.short {l : List (List UInt8 × Int)} (h : TxOk Es l) : ∀ p ∈ l, 0 ≤ p.2 → p.2 ≤ (Es.length : Nat) → Eg.len (rls Es) p.2.toNat ≤ 256 := fun p hp _ _ => by
  obtain ⟨id, h1, h2, h3⟩ := h p hp
  rw [h1, Int.toNat_natCast]
  omega
theorem TxOk.inr {l : List (List UInt8 × Int)} (h : TxOk Es l) : InR Es.length l := fun p hp => by
  obtain ⟨id, h1, h2, h3⟩ := h p hp
  rw [h1]
  omega
theorem mkN_length {l : List Im} {ids : List Nat} (h : ids.length = l.length) : (mkN l ids).length = l.length := by simp [mkN, h]
theorem mkN_at {l : List Im} {ids : List Nat} {i id : Nat} {x : Im} (hx : l[i]? = some x) (hi : ids[i]? = some id) : (mkN l ids)[i]? = some (x.name, (id : Int)) := by
  unfold mkN
  rw [List.getElem?_map]
  have : (l.zip ids)[i]? = some (x, id) := by rw [List.getElem?_zip_eq_some]; exact ⟨hx, hi⟩
  rw [this]
  rfl
theorem mkN_get {l : List Im} {ids : List Nat} {i : Nat} {p : List UInt8 × Int} (h : (mkN l ids)[i]? = some p) : ∃ x id, l[i]? = some x ∧ ids[i]? = some id ∧ p = (x.name, (id : Int)) := by
  unfold mkN at h
  rw [List.getElem?_map] at h
  cases e : (l.zip ids)[i]? with
  | none => rw [e] at h; cases h
  | some q =>
    rw [e] at h
    obtain ⟨x, id⟩ := q
    rw [List.getElem?_zip_eq_some] at e
    simp at h
    exact ⟨x, id, e.1, e.2, h.symm⟩
theorem raw_mkN {l : List Im} {ids : List Nat} (h : ids.length = l.length) : rawN (mkN l ids) = ids := by
  apply List.ext_getElem?
  intro i
  unfold rawN
  rw [List.getElem?_map]
  rcases Nat.lt_or_ge i l.length with hi | hi
  · obtain ⟨x, hx⟩ : ∃ x, l[i]? = some x := ⟨_, List.getElem?_eq_getElem hi⟩
    obtain ⟨y, hy⟩ : ∃ y, ids[i]? = some y := ⟨_, List.getElem?_eq_getElem (by omega)⟩
    rw [mkN_at hx hy, hy]
    rfl
  · rw [List.getElem?_eq_none (by rw [mkN_length h]; exact hi), List.getElem?_eq_none (by omega)]
    rfl
theorem mkN_txok {l : List Im} {ids : List Nat} (hg : GoodI l) (ht : Txs (rls Es) l ids) : TxOk Es (mkN l ids) := fun p hp => by
  obtain ⟨i, hi⟩ := List.getElem?_of_mem hp
  obtain ⟨x, id, hx, hid, rfl⟩ := mkN_get hi
  have h := ht i x id hx hid
  rw [rls_length] at h
  exact ⟨id, rfl, h.1, by unfold len; rw [h.2]; exact (hg.1 x (List.mem_of_getElem? hx)).2⟩
theorem mkN_names {l : List Im} {ids : List Nat} (hg : GoodI l) : Names (mkN l ids) ∧ Ordered (mkN l ids) l.length := by
  refine ⟨fun p hp => ?_, fun i p q hi hp hq => ?_⟩
  · obtain ⟨i, hi⟩ := List.getElem?_of_mem hp
    obtain ⟨x, id, hx, hid, rfl⟩ := mkN_get hi
    exact (hg.1 x (List.mem_of_getElem? hx)).1
  · obtain ⟨x, id, hx, hid, rfl⟩ := mkN_get hp
    obtain ⟨y, id', hy, hid', rfl⟩ := mkN_get hq
    exact hg.2.1 i x y hi hx hy
theorem sgo_of {l : List (List UInt8 × Int)} (h1 : Names l) (h2 : Ordered l l.length) (h3 : TxOk Es l) : SgO Es.length l := ⟨h1, h2, h3.inr⟩
theorem Ordered.take {l : List (List UInt8 × Int)} (h : Ordered l l.length) (t : Nat) : Ordered (l.take t) (l.take t).length := fun i p q hi hp hq => by
  rw [List.length_take] at hi
  rw [List.getElem?_take] at hp hq
  rw [if_pos (by omega)] at hp hq
  exact h i p q (by omega) hp hq
theorem Ordered.drop {l : List (List UInt8 × Int)} (h : Ordered l l.length) (t : Nat) : Ordered (l.drop t) (l.drop t).length := fun i p q hi hp hq => by
  rw [List.length_drop] at hi
  rw [List.getElem?_drop] at hp hq
  exact h (t + i) p q (by omega) hp (by rw [Nat.add_assoc]; exact hq)
def zzzz : List UInt8 := [122, 122, 122, 122]
theorem Ordered.more {l : List (List UInt8 × Int)} (h : Ordered l l.length) {p : List UInt8 × Int} (hp : l[l.length - 1]? = some p) {x : Int} (hz : Op.bytesLess p.1 zzzz = true) : Ordered (l ++ [(zzzz, x)]) (l ++ [(zzzz, x)]).length := fun i u w hi hu hw => by
  rw [List.length_append, List.length_singleton] at hi
  rcases Nat.lt_or_ge (i + 1) l.length with h' | h'
  · rw [List.getElem?_append_left (by omega)] at hu
    rw [List.getElem?_append_left h'] at hw
    exact h i u w h' hu hw
  · have e : i + 1 = l.length := by omega
    rw [List.getElem?_append_left (by omega), show i = l.length - 1 by omega, hp] at hu
    rw [e] at hw
    simp at hw
    cases hu
    subst hw
    exact hz
theorem ct_RulesO (hE : Seat E) (hB : Base E.w0) {l : List (List UInt8 × Int)} {n : Nat} (hln : l.length = n) {a : Option Addr} {c : Nat} {q : HP} (hq : Rdb E.w0 a (nlC l) q) (hn : n ≤ 1000) (hN : Names l) (hO : Ordered l l.length) (hT : TxOk Es l) (hroom : Es.length + 512 * n ≤ most) (hk : Kn (rls Es) f) :
    Ct E 16 [.pointer (some ⟨m, 0, none⟩), .slice a n c] [cells pp [.pointer (some ⟨s, 0, none⟩), .pointer (some ⟨tb, 0, none⟩)] 106, tabP tb s (rls Es), storeP s most Es, cells m [.pointer (some ⟨pp, 0, none⟩), .map (some bm)] 103, mapF bm .i64 f, q]
      (fun v Q => ∃ M f' ys, v = .tuple #[.int .i64 ((visits (rls (Es ++ M)) ys []).length : Nat), .nilIface] ∧ M.length ≤ 512 * n ∧ Kn (rls (Es ++ M)) f' ∧ ys.length = (rawN l).length ∧ SigL (rls (Es ++ M)) (rawN l) ys ∧ Q = [cells pp [.pointer (some ⟨s, 0, none⟩), .pointer (some ⟨tb, 0, none⟩)] 106, tabP tb s (rls (Es ++ M)), storeP s most (Es ++ M), cells m [.pointer (some ⟨pp, 0, none⟩), .map (some bm)] 103, mapF bm .i64 f', q]) := by
  subst hln
  refine fun R w hs => ((ct_Rules (s := s) (tb := tb) (pp := pp) (most := most) (m := m) (bm := bm) (f := f) (c := c) hE hB hq hn hT.short hroom hk) R w hs).mono fun e w' ⟨v, Qs, h1, h2, h4⟩ => ⟨v, Qs, h1, ?_, h4⟩
  rcases h2 with ⟨e, he, _⟩ | ⟨M, f', ys, ho, hv, hM, hkn, hyl, hsl, hQ⟩
  · exact (SgE.not he (sgo_of hN hO hT)).elim
  · exact ⟨M, f', ys, hv, hM, hkn, by rw [hyl]; simp [rawN], hsl, hQ⟩
theorem ct_RulesE (hE : Seat E) (hB : Base E.w0) {l : List (List UInt8 × Int)} {n : Nat} (hln : l.length = n) {a : Option Addr} {c : Nat} {q : HP} (hq : Rdb E.w0 a (nlC l) q) (hn : n ≤ 1000) (hT : TxOk Es l) (hroom : Es.length + 512 * n ≤ most) (hk : Kn (rls Es) f) :
    Ct E 16 [.pointer (some ⟨m, 0, none⟩), .slice a n c] [cells pp [.pointer (some ⟨s, 0, none⟩), .pointer (some ⟨tb, 0, none⟩)] 106, tabP tb s (rls Es), storeP s most Es, cells m [.pointer (some ⟨pp, 0, none⟩), .map (some bm)] 103, mapF bm .i64 f, q]
      (fun v Q => ∃ (z : Nat) (u : Value) (M : List Ent) (f' : Int → Option Value) (ys : List Nat), v = .tuple #[.int .i64 (z : Nat), u] ∧ ((¬ SgO Es.length l ∧ ∃ e, u = .iface 36 (.int .i64 e)) ∨ (u = .nilIface ∧ z = (visits (rls (Es ++ M)) ys []).length ∧ ys.length = (rawN l).length ∧ SigL (rls (Es ++ M)) (rawN l) ys)) ∧ Q = [cells pp [.pointer (some ⟨s, 0, none⟩), .pointer (some ⟨tb, 0, none⟩)] 106, tabP tb s (rls (Es ++ M)), storeP s most (Es ++ M), cells m [.pointer (some ⟨pp, 0, none⟩), .map (some bm)] 103, mapF bm .i64 f', q]) := by
  subst hln
  refine fun R w hs => ((ct_Rules (s := s) (tb := tb) (pp := pp) (most := most) (m := m) (bm := bm) (f := f) (c := c) hE hB hq hn hT.short hroom hk) R w hs).mono fun e w' ⟨v, Qs, h1, h2, h4⟩ => ⟨v, Qs, h1, ?_, h4⟩
  rcases h2 with ⟨e, he, hv, hQ⟩ | ⟨M, f', ys, ho, hv, hM, hkn, hyl, hsl, hQ⟩
  · exact ⟨0, _, [], f, [], hv, .inl ⟨fun ho => SgE.not he ho, e, rfl⟩, by rw [List.append_nil]; exact hQ⟩
  · exact ⟨_, _, M, f', ys, hv, .inr ⟨rfl, rfl, by rw [hyl]; simp [rawN], hsl⟩, hQ⟩
end Go.Proofs.YtkkjjablmmmmkaaGreatDoor
namespace Go.Proofs.YtkkjjablmmmmkaaGreatDoor
open Go Go.RowKit Sl Eg
set_option maxRecDepth 10000
variable {E : Env}
theorem rd_part {w0 : World} {g c n sz o : Nat} {vs xs : List Value} {t : TypeId} (h : ∀ (i : Nat) (v : Value), vs[i]? = some v → xs[o + i]? = some v) : ∀ k, sl (some ⟨g, 0, none⟩) c t sz n xs k → RdAt w0 g o vs k := fun k hk i v hv => by
  have := rd_slz (w0 := w0) (vs := xs) (fun _ _ h => h) k hk (o + i) v (h i v hv)
  simpa only [Nat.zero_add] using this
theorem nlC_take {l : List (List UInt8 × Int)} {t : Nat} : ∀ (i : Nat) (v : Value), (nlC (l.take t))[i]? = some v → (nlC l)[0 + i]? = some v := fun i v h => by
  have e : nlC l = nlC (l.take t) ++ nlC (l.drop t) := by rw [← nlC_append, List.take_append_drop]
  rw [Nat.zero_add, e, List.getElem?_append_left (List.getElem?_eq_some_iff.1 h).1]
  exact h
theorem nlC_drop {l : List (List UInt8 × Int)} {t : Nat} (ht : t ≤ l.length) : ∀ (i : Nat) (v : Value), (nlC (l.drop t))[i]? = some v → (nlC l)[t * 2 + i]? = some v := fun i v h => by
  have e : nlC l = nlC (l.take t) ++ nlC (l.drop t) := by rw [← nlC_append, List.take_append_drop]
  have el : (nlC (l.take t)).length = t * 2 := by rw [nlC_length, List.length_take]; omega
  rw [e, List.getElem?_append_right (by omega), el, Nat.add_sub_cancel_left]
  exact h
theorem nlC_cells : ∀ (l : List (List UInt8 × Int)), ∀ u ∈ nlC l, u.oneCell' = true
  | [], u, h => by simp [nlC] at h
  | p :: l, u, h => by
    simp only [nlC, List.mem_cons] at h
    rcases h with rfl | rfl | h
    · rfl
    · rfl
    · exact nlC_cells l u h
theorem ct_CodecSharesQ (hE : Seat E) (hB : Base E.w0) {l : List Im} {a : Option Addr} {ca k : Nat} (hk : k < 256) (hq : Rdb E.w0 a (imC l) old) (hok : ∀ x ∈ l, Rdb E.w0 x.a (byC x.bs) old) (hn : l.length ≤ maxLen) :
    Ct E 5 [.slice a l.length ca, .int .u8 (k : Nat)] [old] (fun v Q => v = .bool true ∧ Q = [old]) := by
  have hmr : 1048576 ≤ maxRules := Nat.le_refl _
  refine fn_enter (hE.fn Tryz.func5) rfl rfl rfl (fun R => ?_)
  simp only [argsL, List.cons_append, List.nil_append]
  refine w_seq (wR ?_)
  refine lY (yA rfl) rfl ?_
  refine l_nil (aT (w_seq (w_seq (wR ?_))))
  refine lY (yM rfl) rfl ?_
  apply lL (by kernel_rfl) rfl
  apply ld_call (ct_good hE hq hn) rfl (hE.f (by kernel_rfl))
  · ((repeat constructor); done)
  rintro _ _ ⟨b, rfl, hb, rfl⟩
  simp only [List.cons_append, List.nil_append]
  refine lY (y_not rfl) rfl ?_
  refine lY (yM rfl) rfl ?_
  refine l_splitb 21 rfl (fun g1 => ?_) (fun g1 => ?_)
  · skip
    refine l_off rfl rfl rfl rfl (l_off rfl rfl rfl rfl (l_off rfl rfl rfl rfl ?_))
    apply lY
    · (first | exact y_pick_t rfl rfl | exact y_pick_f rfl rfl)
    · rfl
    refine l_nil (aT ?_)
    refine w_cond_t rfl ?_
    refine w_seq (wR ?_)
    refine lY (yA rfl) rfl ?_
    refine l_nil (aT (w_ret (a_then_ret ?_)))
    apply a_ret
    · rfl
    · (apply Rs.tmp rfl; exact Rs.nil)
    · exact ⟨rfl, rfl⟩
    · (apply ent; (repeat constructor); done)
  skip
  have hg : GoodI l := hb.1 (by simpa using g1)
  refine l_on rfl rfl ?_
  refine lY (yM rfl) rfl ?_
  refine l_on rfl rfl ?_
  refine lY (y_len_slice rfl (hE.t rfl)) rfl ?_
  refine l_on rfl rfl ?_
  refine lY (y_eq rfl rfl) rfl ?_
  apply lY
  · (first | exact y_pick_t rfl rfl | exact y_pick_f rfl rfl)
  · rfl
  refine l_nil (aT ?_)
  refine w_cond_d rfl (fun g2 => ?_) (fun g2 => ?_)
  · skip
    refine w_seq (wR ?_)
    refine lY (yA rfl) rfl ?_
    refine l_nil (aT (w_ret (a_then_ret ?_)))
    apply a_ret
    · rfl
    · (apply Rs.tmp rfl; exact Rs.nil)
    · exact ⟨rfl, rfl⟩
    · (apply ent; (repeat constructor); done)
  skip
  have hl6 := hg.2.2
  have hl1 : 1 ≤ l.length := by omega
  refine w_skip (aT (w_seq (wR ?_)))
  apply lL (by kernel_rfl) rfl
  apply ld_call (ct_memo (most := 1048576) hE hmr) rfl (hE.f (by kernel_rfl))
  · ((repeat constructor); done)
  rintro _ _ ⟨m, bm, pp, s, tb, rfl, rfl⟩
  simp only [List.cons_append, List.nil_append]
  refine lY (yA rfl) rfl ?_
  refine l_nil (aT (w_seq (wR ?_)))
  refine lY (yM rfl) rfl ?_
  refine lY (yM rfl) rfl ?_
  have hr0 : ([] : List Ent).length + 120 * l.length ≤ 1048576 := by rw [List.length_nil]; omega
  apply lL (by kernel_rfl) rfl
  apply ld_call (ct_put (Es := []) (s := s) (tb := tb) (pp := pp) (most := 1048576) (m := m) (bm := bm) (w := 0) hE hB hq hok (fun x hx => (hg.1 x hx).2) hl6 (by omega) hr0) rfl (hE.f (by kernel_rfl))
  · ((repeat constructor); done)
  rintro _ _ ⟨M0, ids, p, c, rfl, hM0, hil, htx, rfl⟩
  have htx0 : Txs (rls M0) l ids := htx
  simp only [List.cons_append, List.nil_append]
  refine lY (yM rfl) rfl ?_
  refine lY (y_extract rfl rfl) rfl ?_
  refine lY (y_extract rfl rfl) rfl ?_
  refine lY (yA rfl) rfl ?_
  refine lY (yA rfl) rfl ?_
  refine l_nil (aT (w_seq (w_seq (wR ?_))))
  refine lY (yM rfl) rfl ?_
  refine lY (y_not rfl) rfl ?_
  refine lY (yM rfl) rfl ?_
  skip
  refine l_on rfl rfl ?_
  apply lL (by kernel_rfl) rfl
  apply ld_call (ct_awake hE hB) rfl (hE.f (by kernel_rfl))
  · ((repeat constructor); done)
  rintro _ _ ⟨rfl, rfl⟩
  simp only [List.cons_append, List.nil_append]
  refine l_on rfl rfl ?_
  refine lY (y_not rfl) rfl ?_
  apply lY
  · (first | exact y_pick_t rfl rfl | exact y_pick_f rfl rfl)
  · rfl
  refine lY (yM rfl) rfl ?_
  skip
  refine l_on rfl rfl ?_
  refine lY (yM rfl) rfl ?_
  refine l_on rfl rfl ?_
  refine lY (y_len_slice rfl (hE.t rfl)) rfl ?_
  refine l_on rfl rfl ?_
  refine lY (yM rfl) rfl ?_
  refine l_on rfl rfl ?_
  refine lY (y_len_slice rfl (hE.t rfl)) rfl ?_
  refine l_on rfl rfl ?_
  refine lY (y_ne rfl rfl) rfl ?_
  apply lY
  · (first | exact y_pick_t rfl rfl | exact y_pick_f rfl rfl)
  · rfl
  refine l_nil (aT ?_)
  refine w_cond_d rfl (fun d1 => ?_) (fun d1 => ?_)
  · exact absurd rfl d1
  skip
  refine w_say (p := sl p c 39 2 l.length (nlC (mkN l ids))) (by ((repeat constructor); done)) (fun _ h => And.intro (sl_form h (by omega)) (sl_cap h).1) ?_
  rintro ⟨⟨gp, rfl⟩, hcap⟩
  refine w_say (p := storeP s 1048576 M0) (by ((repeat constructor); done)) (fun _ h => storeP_says h) (fun hs0 => ?_)
  obtain ⟨hN, hO⟩ := mkN_names (ids := ids) hg
  have hln := mkN_length hil
  have hT : TxOk M0 (mkN l ids) := mkN_txok hg htx0
  rw [← hln] at hO
  have hraw := raw_mkN hil
  obtain ⟨t, ht⟩ : ∃ t, t = k % l.length := ⟨_, rfl⟩
  have htl : t < l.length := by rw [ht]; exact Nat.mod_lt _ (by omega)
  have hmod : ((k : Nat) : Int) % ((l.length : Nat) : Int) = ((t : Nat) : Int) := by rw [ht]; exact (Int.natCast_emod k l.length).symm
  have hq0 : Rdb E.w0 (some ⟨gp, 0, none⟩) (nlC (mkN l ids)) (sl (some ⟨gp, 0, none⟩) c 39 2 l.length (nlC (mkN l ids))) := fun _ => ⟨gp, 0, rfl, rd_slz (fun _ _ h => h)⟩
  have hr1 : M0.length + 512 * l.length ≤ 1048576 := by omega
  refine w_skip (aT (w_seq (wR ?_)))
  refine lY (yM rfl) rfl ?_
  refine lY (yM rfl) rfl ?_
  apply lL (by kernel_rfl) rfl
  apply ld_call (ct_RulesO (Es := M0) (s := s) (tb := tb) (pp := pp) (most := 1048576) (m := m) (bm := bm) (f := fun _ => none) (c := c) hE hB hln hq0 (by omega) hN hO hT hr1 (Kn.nil _)) rfl (hE.f (by kernel_rfl))
  · ((repeat constructor); done)
  rintro _ _ ⟨M1, f1, y1, rfl, hM1, hk1, hy1, hs1, rfl⟩
  simp only [List.cons_append, List.nil_append]
  refine l_say (p := storeP s 1048576 (M0 ++ M1)) (by ((repeat constructor); done)) (fun _ h => storeP_says h) (fun hw1 => ?_)
  have hT1 := hT.ext M1
  have hE1 : (M0 ++ M1).length = M0.length + M1.length := List.length_append
  refine lY (yM rfl) rfl ?_
  refine lY (y_extract rfl rfl) rfl ?_
  refine lY (y_extract rfl rfl) rfl ?_
  refine lY (yA rfl) rfl ?_
  refine lY (yA rfl) rfl ?_
  refine l_nil (aT ?_)
  refine w_seq (wR ?_)
  refine lY (yM rfl) rfl ?_
  refine lY (y_conv rfl (hE.t rfl) (hE.t rfl) (by first | exact wrap_in (by omega) (by omega) | exact wrap_uu (by omega) (by omega))) rfl ?_
  refine lY (yM rfl) rfl ?_
  refine lY (y_len_slice rfl (hE.t rfl)) rfl ?_
  refine lY (y_rem rfl rfl (by omega) (by omega)) rfl ?_
  refine l_eq 56 (.int .i64 (t : Nat)) rfl (congrArg (Value.int .i64) hmod) ?_
  refine lY (yA rfl) rfl ?_
  refine l_nil (aT ?_)
  refine w_seq (wR ?_)
  refine lY (yM rfl) rfl ?_
  refine lY (yM rfl) rfl ?_
  refine lY (yM rfl) rfl ?_
  apply lY
  · exact y_slice_hi t rfl rfl (hE.t rfl) rfl (by omega)
  · rfl
  skip
  have hlt : ((mkN l ids).take t).length = t := by rw [List.length_take]; omega
  have hqt : Rdb E.w0 (some ⟨gp, 0, none⟩) (nlC ((mkN l ids).take t)) (sl (some ⟨gp, 0, none⟩) c 39 2 l.length (nlC (mkN l ids))) := fun _ => ⟨gp, 0, rfl, rd_part nlC_take⟩
  have hr2 : (M0 ++ M1).length + 512 * t ≤ 1048576 := by omega
  apply lL (by kernel_rfl) rfl
  apply ld_call (ct_RulesO (Es := M0 ++ M1) (s := s) (tb := tb) (pp := pp) (most := 1048576) (m := m) (bm := bm) (f := f1) (c := c) hE hB hlt hqt (by omega) (fun p hp => hN p (List.mem_of_mem_take hp)) (hO.take t) (hT1.sub fun p hp => List.mem_of_mem_take hp) hr2 hk1) rfl (hE.f (by kernel_rfl))
  · ((repeat constructor); done)
  rintro _ _ ⟨M2, f2, y2, rfl, hM2, hk2, hy2, hs2, rfl⟩
  simp only [List.cons_append, List.nil_append]
  refine l_say (p := storeP s 1048576 (M0 ++ M1 ++ M2)) (by ((repeat constructor); done)) (fun _ h => storeP_says h) (fun hw2 => ?_)
  have hT2 := hT1.ext M2
  have hE2 : (M0 ++ M1 ++ M2).length = (M0 ++ M1).length + M2.length := List.length_append
  refine lY (yM rfl) rfl ?_
  refine lY (y_extract rfl rfl) rfl ?_
  refine lY (y_extract rfl rfl) rfl ?_
  refine lY (yA rfl) rfl ?_
  refine lY (yA rfl) rfl ?_
  refine l_nil (aT ?_)
  refine w_seq (wR ?_)
  refine lY (yM rfl) rfl ?_
  refine lY (yM rfl) rfl ?_
  refine lY (yM rfl) rfl ?_
  apply lY
  · exact y_slice_some (l := t) (h := l.length) rfl (hE.t rfl) ⟨_, rfl⟩ rfl (by omega) (by omega)
  · rfl
  refine l_eq 69 (.slice (some ⟨gp, t * 2, none⟩) (l.length - t) (c - t)) rfl (by rw [if_neg (by omega), Sl.addr_add, Nat.zero_add]) ?_
  skip
  have hld : ((mkN l ids).drop t).length = l.length - t := by rw [List.length_drop]; omega
  have hqd : Rdb E.w0 (some ⟨gp, t * 2, none⟩) (nlC ((mkN l ids).drop t)) (sl (some ⟨gp, 0, none⟩) c 39 2 l.length (nlC (mkN l ids))) := fun _ => ⟨gp, t * 2, rfl, rd_part (nlC_drop (by omega))⟩
  have hr3 : (M0 ++ M1 ++ M2).length + 512 * (l.length - t) ≤ 1048576 := by omega
  apply lL (by kernel_rfl) rfl
  apply ld_call (ct_RulesO (Es := M0 ++ M1 ++ M2) (s := s) (tb := tb) (pp := pp) (most := 1048576) (m := m) (bm := bm) (f := f2) (c := c - t) hE hB hld hqd (by omega) (fun p hp => hN p (List.mem_of_mem_drop hp)) (hO.drop t) (hT2.sub fun p hp => List.mem_of_mem_drop hp) hr3 hk2) rfl (hE.f (by kernel_rfl))
  · ((repeat constructor); done)
  rintro _ _ ⟨M3, f3, y3, rfl, hM3, hk3, hy3, hs3, rfl⟩
  simp only [List.cons_append, List.nil_append]
  refine l_say (p := storeP s 1048576 (M0 ++ M1 ++ M2 ++ M3)) (by ((repeat constructor); done)) (fun _ h => storeP_says h) (fun hw3 => ?_)
  have hT3 := hT2.ext M3
  have hE3 : (M0 ++ M1 ++ M2 ++ M3).length = (M0 ++ M1 ++ M2).length + M3.length := List.length_append
  obtain ⟨x, hx⟩ : ∃ x, l[t]? = some x := ⟨_, List.getElem?_eq_getElem htl⟩
  obtain ⟨id, hid⟩ : ∃ id, ids[t]? = some id := ⟨_, List.getElem?_eq_getElem (by omega)⟩
  have hat := mkN_at hx hid
  have f4 : (nlC (mkN l ids))[0 + ((t : Nat) : Int).toNat * 2 + 1]? = some (.int .i64 ((id : Nat) : Int)) := by
    rw [show 0 + ((t : Nat) : Int).toNat * 2 + 1 = t * 2 + 1 by omega]
    exact (nlC_at hat).2
  have f5 : (nlC (mkN l ids))[((t : Nat) : Int).toNat * 2 + 1]? = some (.int .i64 ((id : Nat) : Int)) := by
    rw [show ((t : Nat) : Int).toNat * 2 + 1 = t * 2 + 1 by omega]
    exact (nlC_at hat).2
  refine lY (yM rfl) rfl ?_
  refine lY (y_extract rfl rfl) rfl ?_
  refine lY (y_extract rfl rfl) rfl ?_
  refine lY (yA rfl) rfl ?_
  refine lY (yA rfl) rfl ?_
  refine l_nil (aT ?_)
  refine w_cut (fun q : Nat × Nat => [(5, .pointer (some ⟨m, 0, none⟩)), (6, .slice (some ⟨gp, 0, none⟩) l.length c), (8, .int .i64 ((visits (rls (M0 ++ M1)) y1 []).length : Nat)), (9, .nilIface), (11, .int .i64 ((visits (rls (M0 ++ M1 ++ M2)) y2 []).length : Nat)), (12, .nilIface), (13, .int .i64 ((visits (rls (M0 ++ M1 ++ M2 ++ M3)) y3 []).length : Nat)), (14, .nilIface), (15, .slice (some ⟨q.1, 0, none⟩) (l.length + 1) q.2)]) (fun q => [cells pp [.pointer (some ⟨s, 0, none⟩), .pointer (some ⟨tb, 0, none⟩)] 106, tabP tb s (rls (M0 ++ M1 ++ M2 ++ M3)), storeP s 1048576 (M0 ++ M1 ++ M2 ++ M3), cells m [.pointer (some ⟨pp, 0, none⟩), .map (some bm)] 103, mapF bm .i64 f3, sl (some ⟨gp, 0, none⟩) c 39 2 l.length (nlC (mkN l ids)), old, sl (some ⟨q.1, 0, none⟩) q.2 39 2 (l.length + 1) (nlC (mkN l ids ++ [(zzzz, (id : Int))])), R]) (fun q => True) ?_ ?_
  · skip
    refine w_until 11 ([sl (some ⟨gp, 0, none⟩) c 39 2 l.length (nlC (mkN l ids))]) ?_ ?_
    · (apply ent; (repeat constructor); done)
    apply m_take 1 rfl
    · exact yM rfl
    · with_reducible (repeat (first | exact cB | apply cT | apply cK))
    · kernel_rfl
    · rfl
    apply m_take 3 rfl
    · exact yM rfl
    · with_reducible (repeat (first | exact cB | apply cT | apply cK))
    · kernel_rfl
    · rfl
    apply m_take 4 rfl
    · exact yM rfl
    · with_reducible (repeat (first | exact cB | apply cT | apply cK))
    · kernel_rfl
    · rfl
    apply m_take 5 rfl
    · exact y_indexAddr rfl rfl (hE.t rfl) (by omega) (by omega)
    · with_reducible (repeat (first | exact cB | apply cT | apply cK))
    · kernel_rfl
    · rfl
    apply m_take 6 rfl
    · exact yF rfl (hE.t rfl) rfl
    · with_reducible (repeat (first | exact cB | apply cT | apply cK))
    · kernel_rfl
    · rfl
    apply m_take 7 rfl
    · (first | (apply y_load rfl (hE.t rfl) rfl; (repeat (first | rfl | assumption | constructor)); done) | exact y_load_old rfl (hE.t rfl) rfl (by assumption) | (apply y_load_ro rfl (hE.t rfl) rfl; (focus ((repeat constructor); done)); (focus assumption)) | (apply y_load_q rfl (hE.t rfl) rfl (by assumption); (focus ((repeat constructor); done)); (first | ((focus exact f0); (focus omega)) | ((focus exact f1); (focus omega)) | ((focus assumption); (focus omega)))))
    · with_reducible (repeat (first | exact cB | apply cT | apply cK))
    · kernel_rfl
    · rfl
    apply m_take 8 rfl
    · (first | exact y_build (hE.t rfl) rfl rfl | exact y_buildA (hE.t rfl) rfl rfl)
    · with_reducible (repeat (first | exact cB | apply cT | apply cK))
    · kernel_rfl
    · rfl
    apply m_two 0 9 rfl rfl (by kernel_rfl) rfl rfl
    · refine ld_buildSlice0 (hE.t rfl) (fun b73 => ?_)
      refine ⟨by (apply ent; (repeat constructor); done), ?_⟩
      apply m_two 2 9 rfl rfl (by kernel_rfl) rfl rfl
      · skip
        apply ld_append_sl (hE.t rfl) (hE.t rfl) rfl rfl rfl
        · ((repeat constructor); done)
        · ((repeat constructor); done)
        · exact nlC_cells _
        · omega
        · omega
        · unfold maxLen; omega
        intro g1 c1 m' x' hm' hx'
        obtain rfl : m' = l.length := by omega
        obtain rfl : x' = nlC (mkN l ids) := hx'
        refine ⟨by (apply ent; (repeat constructor); done), ?_⟩
        apply m_loud 9 rfl (by kernel_rfl) rfl
        refine ld_buildSlice (hE.t rfl) (hE.t rfl) rfl rfl rfl (fun b82 => ?_)
        refine ⟨by (apply ent; (repeat constructor); done), ?_⟩
        apply m_loud 10 rfl (by kernel_rfl) rfl
        apply ld_append (hE.t rfl) (hE.t rfl) rfl rfl rfl
        · ((repeat constructor); done)
        · ((repeat constructor); done)
        · rfl
        · rfl
        · omega
        · omega
        · (unfold maxLen; omega)
        intro g83 c83 n83 x83 hn83 hx83
        refine ⟨by (apply ent; (repeat constructor); done), ?_⟩
        apply m_one 11 rfl (by kernel_rfl)
        · exact yA rfl
        · rfl
        refine m_nil (by kernel_rfl) ?_
        have hn83' : n83 = l.length + 1 := hn83
        have hx83' : x83 = nlC (mkN l ids ++ [(zzzz, (id : Int))]) := by rw [hx83, nlC_append]; rfl
        subst hn83' hx83'
        refine a_cut (ι := Nat × Nat) (g83, c83) trivial ⟨rfl, rfl, rfl, rfl, rfl, rfl, rfl, rfl, rfl, trivial⟩ ?_
        (apply ent; (repeat constructor); done)
      · refine ld_buildSlice (hE.t rfl) (hE.t rfl) rfl rfl rfl (fun b82 => ?_)
        refine ⟨by (apply ent; (repeat constructor); done), ?_⟩
        apply m_loud 2 rfl (by kernel_rfl) rfl
        apply ld_append_sl (hE.t rfl) (hE.t rfl) rfl rfl rfl
        · ((repeat constructor); done)
        · ((repeat constructor); done)
        · exact nlC_cells _
        · omega
        · omega
        · unfold maxLen; omega
        intro g1 c1 m' x' hm' hx'
        obtain rfl : m' = l.length := by omega
        obtain rfl : x' = nlC (mkN l ids) := hx'
        refine ⟨by (apply ent; (repeat constructor); done), ?_⟩
        apply m_loud 10 rfl (by kernel_rfl) rfl
        apply ld_append (hE.t rfl) (hE.t rfl) rfl rfl rfl
        · ((repeat constructor); done)
        · ((repeat constructor); done)
        · rfl
        · rfl
        · omega
        · omega
        · (unfold maxLen; omega)
        intro g83 c83 n83 x83 hn83 hx83
        refine ⟨by (apply ent; (repeat constructor); done), ?_⟩
        apply m_one 11 rfl (by kernel_rfl)
        · exact yA rfl
        · rfl
        refine m_nil (by kernel_rfl) ?_
        have hn83' : n83 = l.length + 1 := hn83
        have hx83' : x83 = nlC (mkN l ids ++ [(zzzz, (id : Int))]) := by rw [hx83, nlC_append]; rfl
        subst hn83' hx83'
        refine a_cut (ι := Nat × Nat) (g83, c83) trivial ⟨rfl, rfl, rfl, rfl, rfl, rfl, rfl, rfl, rfl, trivial⟩ ?_
        (apply ent; (repeat constructor); done)
    · refine ld_buildSlice (hE.t rfl) (hE.t rfl) rfl rfl rfl (fun b82 => ?_)
      refine ⟨by (apply ent; (repeat constructor); done), ?_⟩
      apply m_loud 0 rfl (by kernel_rfl) rfl
      refine ld_buildSlice0 (hE.t rfl) (fun b73 => ?_)
      refine ⟨by (apply ent; (repeat constructor); done), ?_⟩
      apply m_loud 2 rfl (by kernel_rfl) rfl
      apply ld_append_sl (hE.t rfl) (hE.t rfl) rfl rfl rfl
      · ((repeat constructor); done)
      · ((repeat constructor); done)
      · exact nlC_cells _
      · omega
      · omega
      · unfold maxLen; omega
      intro g1 c1 m' x' hm' hx'
      obtain rfl : m' = l.length := by omega
      obtain rfl : x' = nlC (mkN l ids) := hx'
      refine ⟨by (apply ent; (repeat constructor); done), ?_⟩
      apply m_loud 10 rfl (by kernel_rfl) rfl
      apply ld_append (hE.t rfl) (hE.t rfl) rfl rfl rfl
      · ((repeat constructor); done)
      · ((repeat constructor); done)
      · rfl
      · rfl
      · omega
      · omega
      · (unfold maxLen; omega)
      intro g83 c83 n83 x83 hn83 hx83
      refine ⟨by (apply ent; (repeat constructor); done), ?_⟩
      apply m_one 11 rfl (by kernel_rfl)
      · exact yA rfl
      · rfl
      refine m_nil (by kernel_rfl) ?_
      have hn83' : n83 = l.length + 1 := hn83
      have hx83' : x83 = nlC (mkN l ids ++ [(zzzz, (id : Int))]) := by rw [hx83, nlC_append]; rfl
      subst hn83' hx83'
      refine a_cut (ι := Nat × Nat) (g83, c83) trivial ⟨rfl, rfl, rfl, rfl, rfl, rfl, rfl, rfl, rfl, trivial⟩ ?_
      (apply ent; (repeat constructor); done)
  rintro ⟨g9, c9⟩ -
  skip
  have hl4 : (mkN l ids ++ [(zzzz, (id : Int))]).length = l.length + 1 := by rw [List.length_append, hln]; rfl
  have hq4 : Rdb E.w0 (some ⟨g9, 0, none⟩) (nlC (mkN l ids ++ [(zzzz, (id : Int))])) (sl (some ⟨g9, 0, none⟩) c9 39 2 (l.length + 1) (nlC (mkN l ids ++ [(zzzz, (id : Int))]))) := fun _ => ⟨g9, 0, rfl, rd_slz (fun _ _ h => h)⟩
  have hT4 : TxOk (M0 ++ M1 ++ M2 ++ M3) (mkN l ids ++ [(zzzz, (id : Int))]) := fun p hp => by
    rcases List.mem_append.1 hp with hp | hp
    · exact hT3 p hp
    · obtain rfl := List.mem_singleton.1 hp
      obtain ⟨i, h1, h2, h3⟩ := hT3 _ (List.mem_of_getElem? hat)
      exact ⟨i, h1, h2, h3⟩
  have hr4 : (M0 ++ M1 ++ M2 ++ M3).length + 512 * (l.length + 1) ≤ 1048576 := by omega
  refine w_seq (wR ?_)
  refine lY (yM rfl) rfl ?_
  refine lY (yM rfl) rfl ?_
  apply lL (by kernel_rfl) rfl
  apply ld_call (ct_RulesE (Es := M0 ++ M1 ++ M2 ++ M3) (s := s) (tb := tb) (pp := pp) (most := 1048576) (m := m) (bm := bm) (f := f3) (c := c9) hE hB hl4 hq4 (by omega) hT4 hr4 hk3) rfl (hE.f (by kernel_rfl))
  · ((repeat constructor); done)
  rintro _ _ ⟨z, u, M4, f4', y4, rfl, hu, rfl⟩
  simp only [List.cons_append, List.nil_append]
  refine l_say (p := storeP s 1048576 (M0 ++ M1 ++ M2 ++ M3 ++ M4)) (by ((repeat constructor); done)) (fun _ h => storeP_says h) (fun hw4 => ?_)
  obtain ⟨xl, hxl⟩ : ∃ x, l[l.length - 1]? = some x := ⟨_, List.getElem?_eq_getElem (by omega)⟩
  obtain ⟨il, hid2⟩ : ∃ i, ids[l.length - 1]? = some i := ⟨_, List.getElem?_eq_getElem (by omega)⟩
  have hatl := mkN_at hxl hid2
  have f6 := (nlC_at hatl).1
  refine lY (yM rfl) rfl ?_
  refine lY (y_extract rfl rfl) rfl ?_
  refine lY (y_extract rfl rfl) rfl ?_
  refine lY (yA rfl) rfl ?_
  refine lY (yA rfl) rfl ?_
  refine l_nil (aT ?_)
  refine w_seq (w_seq (wR ?_))
  refine lY (yM rfl) rfl ?_
  refine lY (yM rfl) rfl ?_
  refine lY (y_len_slice rfl (hE.t rfl)) rfl ?_
  refine lY (y_sub rfl rfl (by omega) (by omega)) rfl ?_
  refine lY (y_indexAddr rfl rfl (hE.t rfl) (by omega) (by omega)) rfl ?_
  refine l_eq 94 (.pointer (some ⟨gp, (l.length - 1) * 2, none⟩)) rfl (by congr 3; omega) ?_
  refine lY (yF rfl (hE.t rfl) rfl) rfl ?_
  apply lY
  · (first | (apply y_load rfl (hE.t rfl) rfl; (repeat (first | rfl | assumption | constructor)); done) | exact y_load_old rfl (hE.t rfl) rfl (by assumption) | (apply y_load_ro rfl (hE.t rfl) rfl; (focus ((repeat constructor); done)); (focus assumption)) | (apply y_load_q rfl (hE.t rfl) rfl (by assumption); (focus ((repeat constructor); done)); (first | ((focus exact f0); (focus omega)) | ((focus exact f1); (focus omega)) | ((focus assumption); (focus omega)))))
  · rfl
  refine lY (y_ge_str rfl rfl) rfl ?_
  refine l_nil (aT ?_)
  refine w_cond_b rfl (fun z1 => ?_) (fun z1 => ?_)
  · skip
    refine w_seq (wR ?_)
    refine lY (yA rfl) rfl ?_
    refine l_nil (aT (w_ret (a_then_ret ?_)))
    apply a_ret
    · rfl
    · (apply Rs.tmp rfl; exact Rs.nil)
    · exact ⟨rfl, rfl⟩
    · (apply ent; (repeat constructor); done)
  skip
  have hz : Op.bytesLess xl.name zzzz = true := by
    show Op.bytesLess xl.name [122, 122, 122, 122] = true
    simpa using z1
  have hO4 : Ordered (mkN l ids ++ [(zzzz, (id : Int))]) (mkN l ids ++ [(zzzz, (id : Int))]).length := hO.more (by rw [hln]; exact hatl) hz
  have hN4 : Names (mkN l ids ++ [(zzzz, (id : Int))]) := fun p hp => by
    rcases List.mem_append.1 hp with hp | hp
    · exact hN p hp
    · obtain rfl := List.mem_singleton.1 hp
      show ValidN zzzz
      decide
  rcases hu with ⟨hno, -⟩ | ⟨rfl, rfl, hy4, hs4⟩
  · exact (hno (sgo_of hN4 hO4 hT4)).elim
  rw [hraw] at hs1 hy1
  have r2 : rawN ((mkN l ids).take t) = ids.take t := by
    rw [show rawN ((mkN l ids).take t) = (rawN (mkN l ids)).take t by simp [rawN, List.map_take], hraw]
  have r3 : rawN ((mkN l ids).drop t) = ids.drop t := by
    rw [show rawN ((mkN l ids).drop t) = (rawN (mkN l ids)).drop t by simp [rawN, List.map_drop], hraw]
  have r4 : rawN (mkN l ids ++ [(zzzz, (id : Int))]) = ids ++ [id] := by
    have e := hraw
    unfold rawN at e ⊢
    rw [List.map_append, e]
    rfl
  rw [r2] at hs2 hy2
  rw [r3] at hs3 hy3
  rw [r4] at hs4 hy4
  have q1 : SigL (rls (M0 ++ M1 ++ M2 ++ M3 ++ M4)) ids y1 := by rw [rls_append (M0 ++ M1 ++ M2 ++ M3), rls_append (M0 ++ M1 ++ M2), rls_append (M0 ++ M1)]; exact ((hs1.ext _).ext _).ext _
  have q2 : SigL (rls (M0 ++ M1 ++ M2 ++ M3 ++ M4)) (ids.take t) y2 := by rw [rls_append (M0 ++ M1 ++ M2 ++ M3), rls_append (M0 ++ M1 ++ M2)]; exact (hs2.ext _).ext _
  have q3 : SigL (rls (M0 ++ M1 ++ M2 ++ M3 ++ M4)) (ids.drop t) y3 := by rw [rls_append (M0 ++ M1 ++ M2 ++ M3)]; exact hs3.ext _
  have v1 : visits (rls (M0 ++ M1 ++ M2 ++ M3 ++ M4)) y1 [] = visits (rls (M0 ++ M1)) y1 [] := by
    rw [show M0 ++ M1 ++ M2 ++ M3 ++ M4 = (M0 ++ M1) ++ (M2 ++ M3 ++ M4) by simp only [List.append_assoc], rls_append (M0 ++ M1)]
    exact visits_ext hw1.1 _ _ _ (hs1.bound hy1)
  have v2 : visits (rls (M0 ++ M1 ++ M2 ++ M3 ++ M4)) y2 [] = visits (rls (M0 ++ M1 ++ M2)) y2 [] := by
    rw [show M0 ++ M1 ++ M2 ++ M3 ++ M4 = (M0 ++ M1 ++ M2) ++ (M3 ++ M4) by simp only [List.append_assoc], rls_append (M0 ++ M1 ++ M2)]
    exact visits_ext hw2.1 _ _ _ (hs2.bound hy2)
  have v3 : visits (rls (M0 ++ M1 ++ M2 ++ M3 ++ M4)) y3 [] = visits (rls (M0 ++ M1 ++ M2 ++ M3)) y3 [] := by
    rw [rls_append (M0 ++ M1 ++ M2 ++ M3)]
    exact visits_ext hw3.1 _ _ _ (hs3.bound hy3)
  obtain ⟨k1, k2, k3, k4⟩ := shares_plain hw4.1 hid q1 hy1 q2 hy2 q3 hy3 hs4 hy4
  rw [v1, v2] at k2
  rw [v1, v3] at k3
  rw [v1, v2, v3] at k4
  rw [v1] at k1
  have k5 := hw1.2.2.2
  have k6 : (visits (rls (M0 ++ M1)) y1 []).length ≤ 1048576 := by
    have := (AccOk.visits hw1.1 (hs1.bound hy1)).len
    rw [rls_length] at this
    omega
  generalize (visits (rls (M0 ++ M1)) y1 []).length = n1 at *
  generalize (visits (rls (M0 ++ M1 ++ M2)) y2 []).length = n2 at *
  generalize (visits (rls (M0 ++ M1 ++ M2 ++ M3)) y3 []).length = n3 at *
  generalize (visits (rls (M0 ++ M1 ++ M2 ++ M3 ++ M4)) y4 []).length = n4 at *
  refine w_skip (aT (w_seq (wR ?_)))
  refine lY (yM rfl) rfl ?_
  apply lY
  · (first | exact y_ok_eq rfl (hE.t rfl) | exact y_err_eq rfl (hE.t rfl))
  · rfl
  refine lY (yM rfl) rfl ?_
  skip
  refine l_on rfl rfl ?_
  refine lY (yM rfl) rfl ?_
  refine l_on rfl rfl ?_
  apply lY
  · (first | exact y_ok_eq rfl (hE.t rfl) | exact y_err_eq rfl (hE.t rfl))
  · rfl
  apply lY
  · (first | exact y_pick_t rfl rfl | exact y_pick_f rfl rfl)
  · rfl
  refine lY (yM rfl) rfl ?_
  skip
  refine l_on rfl rfl ?_
  refine lY (yM rfl) rfl ?_
  refine l_on rfl rfl ?_
  apply lY
  · (first | exact y_ok_eq rfl (hE.t rfl) | exact y_err_eq rfl (hE.t rfl))
  · rfl
  apply lY
  · (first | exact y_pick_t rfl rfl | exact y_pick_f rfl rfl)
  · rfl
  refine lY (yM rfl) rfl ?_
  skip
  refine l_on rfl rfl ?_
  refine lY (yM rfl) rfl ?_
  refine l_on rfl rfl ?_
  apply lY
  · (first | exact y_ok_eq rfl (hE.t rfl) | exact y_err_eq rfl (hE.t rfl))
  · rfl
  apply lY
  · (first | exact y_pick_t rfl rfl | exact y_pick_f rfl rfl)
  · rfl
  refine lY (yM rfl) rfl ?_
  skip
  refine l_on rfl rfl ?_
  refine lY (yM rfl) rfl ?_
  refine l_on rfl rfl ?_
  refine lY (yM rfl) rfl ?_
  refine l_on rfl rfl ?_
  refine lY (y_eq rfl rfl) rfl ?_
  apply lY
  · (first | exact y_pick_t rfl rfl | exact y_pick_f rfl rfl)
  · rfl
  refine lY (yM rfl) rfl ?_
  refine l_split 117 rfl (fun s1 => ?_) (fun s1 => ?_)
  · skip
    refine l_on rfl rfl ?_
    refine lY (yM rfl) rfl ?_
    refine l_on rfl rfl ?_
    refine lY (yM rfl) rfl ?_
    refine l_on rfl rfl ?_
    refine lY (y_le rfl rfl) rfl ?_
    apply lY
    · (first | exact y_pick_t rfl rfl | exact y_pick_f rfl rfl)
    · rfl
    refine lY (yM rfl) rfl ?_
    refine l_split 122 rfl (fun s2 => ?_) (fun s2 => ?_)
    · skip
      refine l_on rfl rfl ?_
      refine lY (yM rfl) rfl ?_
      refine l_on rfl rfl ?_
      refine lY (yM rfl) rfl ?_
      refine l_on rfl rfl ?_
      refine lY (y_le rfl rfl) rfl ?_
      apply lY
      · (first | exact y_pick_t rfl rfl | exact y_pick_f rfl rfl)
      · rfl
      refine lY (yM rfl) rfl ?_
      refine l_split 127 rfl (fun s3 => ?_) (fun s3 => ?_)
      · skip
        refine l_on rfl rfl ?_
        refine lY (yM rfl) rfl ?_
        refine l_on rfl rfl ?_
        refine lY (yM rfl) rfl ?_
        refine l_on rfl rfl ?_
        refine lY (yM rfl) rfl ?_
        refine l_on rfl rfl ?_
        refine lY (y_add rfl rfl (by omega) (by omega)) rfl ?_
        refine l_on rfl rfl ?_
        refine lY (y_le rfl rfl) rfl ?_
        apply lY
        · (first | exact y_pick_t rfl rfl | exact y_pick_f rfl rfl)
        · rfl
        refine lY (yA rfl) rfl ?_
        refine l_nil (aT (w_ret ?_))
        apply a_ret
        · rfl
        · (apply Rs.tmp rfl; exact Rs.nil)
        · exact ⟨congrArg Value.bool (decide_eq_true (by omega)), rfl⟩
        · (apply ent; (repeat constructor); done)
      · exact absurd (show ((n3 : Nat) : Int) ≤ n1 by omega) s3
    · exact absurd (show ((n2 : Nat) : Int) ≤ n1 by omega) s2
  · exact absurd (show ((n4 : Nat) : Int) = n1 by omega) s1
end Go.Proofs.YtkkjjablmmmmkaaGreatDoor
namespace Go.Proofs.YtkkjjablmmmmkaaGreatDoor
open Go Go.ChangeShapes Go.WideShapes Go.ChangeAt Go.WideMaps Go.WideElems Go.RowKit Go.ChangeMaps Sl Eg
theorem byte_nat {z : Int} (h : (Lit.int .u8 z).wf = true) : ∃ n : Nat, z = (n : Int) ∧ n < 256 := by
  have hh : 0 ≤ z ∧ z < 256 := by
    simp only [Lit.wf, Bool.and_eq_true, decide_eq_true_eq] at h
    have h1 : (IntKind.u8.min : Int) = 0 := by rfl
    have h2 : (IntKind.u8.max : Int) = 255 := by rfl
    omega
  exact ⟨z.toNat, by omega, by omega⟩
instance : Inhabited Im := ⟨⟨[], none, [], 0⟩⟩
theorem byC_neq {bs : List UInt8} (h : byC bs ≠ []) : bs ≠ [] := fun e => h (by subst e; rfl)
set_option maxRecDepth 100000 in
theorem open_items {H : Type} {enc : TypeId × Value → H} {w : World} {base b0 : Nat} {r : Reach} {held : Bool} {v : Value} {d : DataW H} {ps : List MemPlace}
    (hv : Value.okWide Tryz.prog w r b0 43 v) (hd : DataW.Trod enc Tryz.prog w base (fun _ => true) held 43 v d ps) :
    ∃ (A : Option Addr) (l : List Im) (C : Nat), v = .slice A l.length C ∧ Rdb w A (imC l) old ∧ (∀ x ∈ l, Rdb w x.a (byC x.bs) old) ∧ l.length ≤ maxLen := by
  have hu : Tryz.prog.underlying 43 = some (.slice 55) := by kernel_rfl
  obtain ⟨a, len, cap, rfl⟩ := okWide_slice hu hv
  obtain ⟨fuel, hf⟩ := hd
  simp only [Value.cells] at hf
  rcases Go.Deep.open_slice_pairs hu Tryz.underlying55 (by kernel_rfl) rfl rfl (by kernel_rfl) (by kernel_rfl) hf with ⟨h1, h2⟩ | ⟨a', len', cap', m, n, V0, V1, D0, D1, P0, P1, h1, hb, hl, hm, hmm, hx, hcell⟩
  · simp at h1
    obtain ⟨rfl, rfl, rfl⟩ := h1
    exact ⟨none, [], 0, rfl, fun h => absurd rfl h, (by simp), Nat.zero_le _⟩
  · simp at h1
    obtain ⟨rfl, rfl, rfl⟩ := h1
    have hml : len ≤ m := by rw [hmm]; split <;> omega
    obtain ⟨M, hM⟩ := Go.Deep.choose_lt (n := len) (p := fun i (x : Im) => V0 i = .string ⟨⟨x.name⟩⟩ ∧ V1 i = .slice x.a x.bs.length x.c ∧ Rdb w x.a (byC x.bs) old) (fun i hi => by
      obtain ⟨c0, c1, t0, t1⟩ := hcell i (by omega)
      obtain ⟨⟨⟨nm⟩⟩, e0, _, _⟩ := DataW.trod_string (by kernel_rfl) t0
      simp at e0
      rcases open_ints under_bytes under_byte cells_byte t1 with ⟨g1, g2⟩ | ⟨a2, l2, c2, zs, g1, gb, gl, gm, gzl, gx, gcell, gwf⟩
      · simp at g1
        exact ⟨⟨nm, none, [], 0⟩, e0, g1, fun h => absurd rfl h⟩
      · simp at g1
        simp only [if_true] at gzl
        have hlen : ((zs.take l2).map byteOf).length = l2 := by simp; omega
        refine ⟨⟨nm, some a2, (zs.take l2).map byteOf, c2⟩, e0, by rw [g1]; simp only [hlen], fun hne => ?_⟩
        exact (old_of (by omega) gwf (fun _ => ⟨a2, rfl, gcell⟩)).rd (byC_neq hne))
    have hlen : ((List.range len).map M).length = len := by simp
    have hget : ∀ i, i < len → ((List.range len).map M)[i]? = some (M i) := fun i hi => by simp [hi]
    refine ⟨some a', (List.range len).map M, cap, by rw [hlen], fun hne => ?_, fun t ht => ?_, by rw [hlen]; omega⟩
    · have h0 : 0 < len := by
        rcases Nat.eq_zero_or_pos len with h | h
        · subst h; simp [imC] at hne
        · exact h
      have hc0 := (hcell 0 (by omega)).1
      rw [show a'.add (0 * 2) = a' by simp [Addr.add]] at hc0
      have e := spot_none hc0
      refine ⟨a'.block, a'.off, by rw [← e], rd_old fun i v hv => ?_⟩
      have hi : i < len * 2 := by
        have := (List.getElem?_eq_some_iff.1 hv).1
        rwa [imC_length, hlen] at this
      have hk : i / 2 < len := by omega
      obtain ⟨k0, k1⟩ := imC_at (hget _ hk)
      obtain ⟨c0, c1, _, _⟩ := hcell (i / 2) (by omega)
      obtain ⟨m0, m1, _⟩ := hM _ hk
      rw [e, Sl.addr_add] at c0 c1
      rcases Nat.mod_two_eq_zero_or_one i with hp | hp
      · rw [show i / 2 * 2 = i by omega] at k0 c0
        rw [k0] at hv
        rw [c0, m0, hv]
      · rw [show i / 2 * 2 + 1 = i by omega] at k1 c1
        rw [k1] at hv
        rw [c1, m1, hv]
    · obtain ⟨i, hi, rfl⟩ := List.mem_map.1 ht
      exact (hM i (List.mem_range.1 hi)).2.2
theorem ct_unoldC {E : Env} {f : FuncId} {args : List Value} {u : Value} (h : Ct E f args [old] (fun v Q => v = u ∧ Q = [old])) : Ct E f args [] (fun v Q => v = u ∧ Q = []) := fun R w s => (h R w (s.imp fun _ x => ent_old _ x)).mono fun e w' ⟨v, Qs, h1, ⟨h2, h3⟩, h4⟩ => ⟨v, [], h1, ⟨h2, rfl⟩, by
  subst h3
  exact h4.imp (by show ∀ k, stars [old, R] k → stars [R] k; (apply ent; (repeat constructor); done))⟩
end Go.Proofs.YtkkjjablmmmmkaaGreatDoor
namespace Go.Proofs.YtkkjjablmmmmkaaGreatDoor
open Go Go.RowKit Sl Eg
theorem ct_CodecShares {E : Env} (hE : Seat E) (hB : Base E.w0) {l : List Im} {a : Option Addr} {ca k : Nat} (hk : k < 256) (hq : Rdb E.w0 a (imC l) old) (hok : ∀ x ∈ l, Rdb E.w0 x.a (byC x.bs) old) (hn : l.length ≤ maxLen) :
    Ct E 5 [.slice a l.length ca, .int .u8 (k : Nat)] [] (fun v Q => v = .bool true ∧ Q = []) := ct_unoldC (ct_CodecSharesQ hE hB hk hq hok hn)
end Go.Proofs.YtkkjjablmmmmkaaGreatDoor
