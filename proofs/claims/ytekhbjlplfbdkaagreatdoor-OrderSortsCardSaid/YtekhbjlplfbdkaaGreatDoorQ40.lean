/- Sorting by a function: data, swaps; order2, median, reverseRange. -/
import Derived.Test.YtekhbjlplfbdkaaGreatDoorQ05
import Derived.Test.YtekhbjlplfbdkaaGreatDoorQ11
import Derived.Test.YtekhbjlplfbdkaaGreatDoorQ20
import Derived.Sort.AssemblyPlain
set_option linter.unusedVariables false
set_option linter.unusedSimpArgs false
namespace Go.Proofs.YtekhbjlplfbdkaaGreatDoor
open Go Go.RowKit Sl Eg
set_option maxRecDepth 10000
variable {E : Env}
def dC (d : Array Nat) : List Value := idC d.toList
theorem dC_len (d : Array Nat) : (dC d).length = d.size := by simp [dC, idC]
theorem dC_get (d : Array Nat) {i : Nat} (h : i < d.size) (o : Nat) (ho : o = i) : (dC d)[o]? = some (.int .i64 (d[i]! : Nat)) := by
  subst ho
  simp [dC, idC, h]
theorem dC_set (d : Array Nat) {i : Nat} (h : i < d.size) (x o : Nat) (ho : o = i) : setMany (dC d) o [.int .i64 (x : Nat)] = dC (d.setIfInBounds i x) := by
  subst ho
  rw [setMany_eq _ _ _ (by rw [dC_len]; simp; omega)]
  apply List.ext_getElem?
  intro k
  simp only [dC, idC, Array.toList_setIfInBounds, List.length_singleton]
  rw [List.map_set]
  rw [List.set_eq_take_append_cons_drop]
  simp [h]
theorem dC_swp (d : Array Nat) {i j : Nat} (hi : i < d.size) (hj : j < d.size) (o o' : Nat) (ho : o = i) (ho' : o' = j) : setMany (setMany (dC d) o [.int .i64 (d[j]! : Nat)]) o' [.int .i64 (d[i]! : Nat)] = dC (Go.Sort.swp d i j) := by
  rw [dC_set d hi _ o ho, dC_set _ (by simpa using hj) _ o' ho']
  rfl
def OkD (ok : Nat → Prop) (n : Nat) (d : Array Nat) : Prop := d.size = n ∧ ∀ i, i < n → ok d[i]!
theorem OkD.swp {ok : Nat → Prop} {n : Nat} {d : Array Nat} (h : OkD ok n d) {i j : Nat} (hi : i < n) (hj : j < n) : OkD ok n (Go.Sort.swp d i j) := by
  obtain ⟨hs, ho⟩ := h
  refine ⟨by simp [Go.Sort.swp, hs], fun k hk => ?_⟩
  have ki : k < d.size := by omega
  simp only [Go.Sort.swp]
  have e : ((d.setIfInBounds i d[j]!).setIfInBounds j d[i]!)[k]! = if j = k then d[i]! else if i = k then d[j]! else d[k]! := by
    rw [getElem!_pos _ k (by simpa using ki), Array.getElem_setIfInBounds (by simpa using ki)]
    split
    · rfl
    · rw [Array.getElem_setIfInBounds ki]
      split
      · rfl
      · rw [getElem!_pos d k ki]
  rw [e]
  split
  · exact ho i hi
  · split
    · exact ho j hj
    · exact ho k hk
variable {fc : FuncId} {caps : List Value} {q : HP} {ok : Nat → Prop} {cf : Nat → Nat → Int} {g c n : Nat}
def Cmp (E : Env) (fc : FuncId) (caps : List Value) (q : HP) (ok : Nat → Prop) (cf : Nat → Nat → Int) : Prop := ∀ x y, ok x → ok y → Ct E fc (.int .i64 (x : Nat) :: .int .i64 (y : Nat) :: caps) [q] (fun v Q => v = .int .i64 (cf x y) ∧ Q = [q])
def ltF (cf : Nat → Nat → Int) (x y : Nat) : Bool := decide (cf x y < 0)
theorem ct_order2 (hE : Seat E) (hf : goFn E.P fc = true) (hc : Cmp E fc caps q ok cf) {d : Array Nat} (hd : OkD ok n d) {a b sw k : Nat} (ha : a < n) (hb : b < n) (hk : k < 1000) :
    Ct E 148 [.slice (some ⟨g, 0, none⟩) n c, .int .i64 (a : Nat), .int .i64 (b : Nat), .pointer (some ⟨sw, 0, none⟩), .func (.func fc) #[] ⟨caps⟩] [cells sw [.int .i64 (k : Nat)] 3, sl (some ⟨g, 0, none⟩) c 27 1 n (dC d), q]
      (fun v Q => v = .tuple #[.int .i64 ((Go.Sort.order2 (ltF cf) d a b k).1 : Nat), .int .i64 ((Go.Sort.order2 (ltF cf) d a b k).2.1 : Nat)] ∧ Q = [cells sw [.int .i64 ((Go.Sort.order2 (ltF cf) d a b k).2.2 : Nat)] 3, sl (some ⟨g, 0, none⟩) c 27 1 n (dC d), q]) := by
  have hs := hd.1
  have f0 := dC_get d (i := b) (by omega) ((b : Int)).toNat (by omega)
  have f1 := dC_get d (i := a) (by omega) ((a : Int)).toNat (by omega)
  have hcc := hc _ _ (hd.2 b hb) (hd.2 a ha)
  refine fn_enter (hE.fn Tryz.func148) rfl rfl rfl (fun R => ?_)
  simp only [argsL, List.cons_append, List.nil_append]
  refine w_seq (wR ?_)
  refine lY (yA rfl) rfl ?_
  refine lY (yA rfl) rfl ?_
  refine l_nil (aT (w_seq (w_seq (w_draws (by kernel_rfl) ?_))))
  refine lY (yM rfl) rfl ?_
  refine lY (yM rfl) rfl ?_
  refine lY (yM rfl) rfl ?_
  apply lY
  · (first | exact y_indexAddr1 rfl rfl (hE.t rfl) (by omega) (by omega) | exact y_indexAddr rfl rfl (hE.t rfl) (by omega) (by omega))
  · rfl
  apply lY
  · (apply y_load rfl (hE.t rfl) rfl; (repeat (first | rfl | assumption | constructor)); done)
  · rfl
  refine lY (yM rfl) rfl ?_
  refine lY (yM rfl) rfl ?_
  apply lY
  · (first | exact y_indexAddr1 rfl rfl (hE.t rfl) (by omega) (by omega) | exact y_indexAddr rfl rfl (hE.t rfl) (by omega) (by omega))
  · rfl
  apply lY
  · (apply y_load rfl (hE.t rfl) rfl; (repeat (first | rfl | assumption | constructor)); done)
  · rfl
  apply lL (by kernel_rfl) rfl
  apply ld_callv (hx := rfl) (ha := rfl) (hf := hf)
  · exact hcc
  · ((repeat constructor); done)
  rintro _ _ ⟨rfl, rfl⟩
  simp only [List.cons_append, List.nil_append]
  refine lY (y_lt rfl rfl) rfl ?_
  refine l_nil (aT ?_)
  refine w_cond_d rfl (fun h1 => ?_) (fun h1 => ?_)
  · skip
    have e : Go.Sort.order2 (ltF cf) d a b k = (b, a, k + 1) := by unfold Go.Sort.order2; rw [if_pos (by simp [ltF, h1])]
    rw [e]
    refine w_seq (wR ?_)
    refine lY (yM rfl) rfl ?_
    refine lY (y_nilCheck rfl) rfl ?_
    apply lY
    · (apply y_load rfl (hE.t rfl) rfl; (repeat (first | rfl | assumption | constructor)); done)
    · rfl
    refine lY (y_add rfl rfl (by omega) (by omega)) rfl ?_
    refine l_eq 26 (.int .i64 ((k + 1 : Nat) : Int)) rfl (int_eq (by omega)) ?_
    refine lY (y_nilCheck rfl) rfl ?_
    apply lL (by kernel_rfl) rfl
    (first | (apply ld_store rfl rfl (hE.t rfl) rfl; (focus ((repeat constructor); done)); (focus rfl); (focus (exact Nat.le_of_ble_eq_true rfl))) | (apply ld_store_sl rfl rfl (hE.t rfl) rfl; (focus ((repeat constructor); done)); (focus rfl); (focus (first | omega | (simp only [cellsL, length_setMany, List.length_cons, List.length_nil]; omega)))))
    refine l_nil (aT (w_seq (wR ?_)))
    refine lY (yM rfl) rfl ?_
    refine lY (yM rfl) rfl ?_
    refine lY (yA rfl) rfl ?_
    refine lY (yA rfl) rfl ?_
    refine l_nil (aT (w_ret (a_then_ret ?_)))
    apply a_ret
    · rfl
    · (apply Rs.tmp rfl; apply Rs.tmp rfl; exact Rs.nil)
    · exact ⟨rfl, rfl⟩
    · (apply ent; (repeat constructor); done)
  · skip
    have e : Go.Sort.order2 (ltF cf) d a b k = (a, b, k) := by unfold Go.Sort.order2; rw [if_neg (by simp [ltF, h1])]
    rw [e]
    refine w_skip (aT (w_seq (wR ?_)))
    refine lY (yM rfl) rfl ?_
    refine lY (yM rfl) rfl ?_
    refine lY (yA rfl) rfl ?_
    refine lY (yA rfl) rfl ?_
    refine l_nil (aT (w_ret ?_))
    apply a_ret
    · rfl
    · (apply Rs.tmp rfl; apply Rs.tmp rfl; exact Rs.nil)
    · exact ⟨rfl, rfl⟩
    · (apply ent; (repeat constructor); done)
open Go.Sort in
theorem order2_lt {lt : Nat → Nat → Bool} {d : Array Nat} {a b k m : Nat} (ha : a < m) (hb : b < m) : (order2 lt d a b k).1 < m ∧ (order2 lt d a b k).2.1 < m ∧ (order2 lt d a b k).2.2 ≤ k + 1 := by
  unfold order2
  split
  · exact ⟨hb, ha, Nat.le_refl _⟩
  · exact ⟨ha, hb, Nat.le_succ _⟩
open Go.Sort in
theorem median_lt {lt : Nat → Nat → Bool} {d : Array Nat} {a b e k m : Nat} (ha : a < m) (hb : b < m) (he : e < m) : (median lt d a b e k).1 < m ∧ (median lt d a b e k).2 ≤ k + 3 := by
  have h1 := order2_lt (lt := lt) (d := d) (k := k) ha hb
  have h2 := order2_lt (lt := lt) (d := d) (k := (order2 lt d a b k).2.2) h1.2.1 he
  have h3 := order2_lt (lt := lt) (d := d) (k := (order2 lt d (order2 lt d a b k).2.1 e (order2 lt d a b k).2.2).2.2) h1.1 h2.1
  unfold median
  exact ⟨h3.2.1, by simp only; omega⟩
theorem ct_median (hE : Seat E) (hf : goFn E.P fc = true) (hc : Cmp E fc caps q ok cf) {d : Array Nat} (hd : OkD ok n d) {a b e sw k : Nat} (ha : a < n) (hb : b < n) (he : e < n) (hk : k < 900) :
    Ct E 132 [.slice (some ⟨g, 0, none⟩) n c, .int .i64 (a : Nat), .int .i64 (b : Nat), .int .i64 (e : Nat), .pointer (some ⟨sw, 0, none⟩), .func (.func fc) #[] ⟨caps⟩] [cells sw [.int .i64 (k : Nat)] 3, sl (some ⟨g, 0, none⟩) c 27 1 n (dC d), q]
      (fun v Q => v = .int .i64 ((Go.Sort.median (ltF cf) d a b e k).1 : Nat) ∧ Q = [cells sw [.int .i64 ((Go.Sort.median (ltF cf) d a b e k).2 : Nat)] 3, sl (some ⟨g, 0, none⟩) c 27 1 n (dC d), q]) := by
  have h1 := order2_lt (lt := ltF cf) (d := d) (k := k) ha hb
  have h2 := order2_lt (lt := ltF cf) (d := d) (k := (Go.Sort.order2 (ltF cf) d a b k).2.2) h1.2.1 he
  unfold Go.Sort.median
  simp only
  refine fn_enter (hE.fn Tryz.func132) rfl rfl rfl (fun R => ?_)
  simp only [argsL, List.cons_append, List.nil_append]
  refine w_seq (wR ?_)
  refine lY (yA rfl) rfl ?_
  refine l_nil (aT (w_seq (wR ?_)))
  refine lY (yM rfl) rfl ?_
  refine lY (yM rfl) rfl ?_
  refine lY (yM rfl) rfl ?_
  refine lY (yM rfl) rfl ?_
  refine lY (yM rfl) rfl ?_
  apply lL (by kernel_rfl) rfl
  apply ld_call (ct_order2 (k := k) hE hf hc hd ha hb (by omega)) rfl (hE.f (by kernel_rfl))
  · ((repeat constructor); done)
  rintro _ _ ⟨rfl, rfl⟩
  simp only [List.cons_append, List.nil_append]
  refine lY (yM rfl) rfl ?_
  refine lY (y_extract rfl rfl) rfl ?_
  refine lY (y_extract rfl rfl) rfl ?_
  refine lY (yA rfl) rfl ?_
  refine lY (yA rfl) rfl ?_
  refine l_nil (aT (w_seq (wR ?_)))
  refine lY (yM rfl) rfl ?_
  refine lY (yM rfl) rfl ?_
  refine lY (yM rfl) rfl ?_
  refine lY (yM rfl) rfl ?_
  refine lY (yM rfl) rfl ?_
  apply lL (by kernel_rfl) rfl
  apply ld_call (ct_order2 (k := (Go.Sort.order2 (ltF cf) d a b k).2.2) hE hf hc hd h1.2.1 he (by omega)) rfl (hE.f (by kernel_rfl))
  · ((repeat constructor); done)
  rintro _ _ ⟨rfl, rfl⟩
  simp only [List.cons_append, List.nil_append]
  refine lY (yM rfl) rfl ?_
  refine lY (y_extract rfl rfl) rfl ?_
  refine lY (y_extract rfl rfl) rfl ?_
  refine lY (yA rfl) rfl ?_
  refine lY (yA rfl) rfl ?_
  refine l_nil (aT (w_seq (wR ?_)))
  refine lY (yM rfl) rfl ?_
  refine lY (yM rfl) rfl ?_
  refine lY (yM rfl) rfl ?_
  refine lY (yM rfl) rfl ?_
  refine lY (yM rfl) rfl ?_
  apply lL (by kernel_rfl) rfl
  apply ld_call (ct_order2 (k := (Go.Sort.order2 (ltF cf) d (Go.Sort.order2 (ltF cf) d a b k).2.1 e (Go.Sort.order2 (ltF cf) d a b k).2.2).2.2) hE hf hc hd h1.1 h2.1 (by omega)) rfl (hE.f (by kernel_rfl))
  · ((repeat constructor); done)
  rintro _ _ ⟨rfl, rfl⟩
  simp only [List.cons_append, List.nil_append]
  refine lY (yM rfl) rfl ?_
  refine lY (y_extract rfl rfl) rfl ?_
  refine lY (y_extract rfl rfl) rfl ?_
  refine lY (yA rfl) rfl ?_
  refine lY (yA rfl) rfl ?_
  refine l_nil (aT (w_seq (wR ?_)))
  refine lY (yM rfl) rfl ?_
  refine lY (yA rfl) rfl ?_
  refine l_nil (aT (w_ret ?_))
  apply a_ret
  · rfl
  · (apply Rs.tmp rfl; exact Rs.nil)
  · exact ⟨rfl, rfl⟩
  · (apply ent; (repeat constructor); done)
theorem ct_medianAdjacent (hE : Seat E) (hf : goFn E.P fc = true) (hc : Cmp E fc caps q ok cf) {d : Array Nat} (hd : OkD ok n d) {a sw k : Nat} (ha : a + 1 < n) (h1 : 1 ≤ a) (hn : n < 1099511627776) (hk : k < 900) :
    Ct E 131 [.slice (some ⟨g, 0, none⟩) n c, .int .i64 (a : Nat), .pointer (some ⟨sw, 0, none⟩), .func (.func fc) #[] ⟨caps⟩] [cells sw [.int .i64 (k : Nat)] 3, sl (some ⟨g, 0, none⟩) c 27 1 n (dC d), q]
      (fun v Q => v = .int .i64 ((Go.Sort.medianAdjacent (ltF cf) d a k).1 : Nat) ∧ Q = [cells sw [.int .i64 ((Go.Sort.medianAdjacent (ltF cf) d a k).2 : Nat)] 3, sl (some ⟨g, 0, none⟩) c 27 1 n (dC d), q]) := by
  unfold Go.Sort.medianAdjacent
  refine fn_enter (hE.fn Tryz.func131) rfl rfl rfl (fun R => ?_)
  simp only [argsL, List.cons_append, List.nil_append]
  refine w_seq (wR ?_)
  refine lY (yA rfl) rfl ?_
  refine l_nil (aT (w_seq (wR ?_)))
  refine lY (yM rfl) rfl ?_
  refine lY (yM rfl) rfl ?_
  refine lY (y_sub rfl rfl (by omega) (by omega)) rfl ?_
  refine lY (yM rfl) rfl ?_
  refine lY (yM rfl) rfl ?_
  refine lY (y_add rfl rfl (by omega) (by omega)) rfl ?_
  refine lY (yM rfl) rfl ?_
  refine lY (yM rfl) rfl ?_
  refine l_eq 11 (.int .i64 ((a - 1 : Nat) : Int)) rfl (int_eq (by omega)) ?_
  refine l_eq 14 (.int .i64 ((a + 1 : Nat) : Int)) rfl (int_eq (by omega)) ?_
  apply lL (by kernel_rfl) rfl
  apply ld_call (ct_median (a := a - 1) (b := a) (e := a + 1) (k := k) hE hf hc hd (by omega) (by omega) ha hk) rfl (hE.f (by kernel_rfl))
  · ((repeat constructor); done)
  rintro _ _ ⟨rfl, rfl⟩
  simp only [List.cons_append, List.nil_append]
  refine lY (yA rfl) rfl ?_
  refine l_nil (aT (w_ret ?_))
  apply a_ret
  · rfl
  · (apply Rs.tmp rfl; exact Rs.nil)
  · exact ⟨rfl, rfl⟩
  · (apply ent; (repeat constructor); done)
def hintN : Go.Sort.Hint → Nat
  | .unknown => 0
  | .increasing => 1
  | .decreasing => 2
theorem ct_choosePivot (hE : Seat E) (hf : goFn E.P fc = true) (hc : Cmp E fc caps q ok cf) {d : Array Nat} (hd : OkD ok n d) {a b : Nat} (hab : a + 12 < b) (hb : b ≤ n) (hn : n < 1099511627776) :
    Ct E 100 [.slice (some ⟨g, 0, none⟩) n c, .int .i64 (a : Nat), .int .i64 (b : Nat), .func (.func fc) #[] ⟨caps⟩] [sl (some ⟨g, 0, none⟩) c 27 1 n (dC d), q]
      (fun v Q => v = .tuple #[.int .i64 ((Go.Sort.choosePivot (ltF cf) d a b).1 : Nat), .int .i64 (hintN (Go.Sort.choosePivot (ltF cf) d a b).2 : Nat)] ∧ Q = [sl (some ⟨g, 0, none⟩) c 27 1 n (dC d), q]) := by
  refine fn_enter (hE.fn Tryz.func100) rfl rfl rfl (fun R => ?_)
  simp only [argsL, List.cons_append, List.nil_append]
  refine w_seq (wR ?_)
  refine lY (yA rfl) rfl ?_
  refine lY (yA rfl) rfl ?_
  refine l_nil (aT (w_seq (wR ?_)))
  refine lY (yM rfl) rfl ?_
  refine lY (yM rfl) rfl ?_
  refine lY (y_sub rfl rfl (by omega) (by omega)) rfl ?_
  refine lY (yA rfl) rfl ?_
  refine l_nil (aT ?_)
  obtain ⟨l, hl⟩ : ∃ l, l = b - a := ⟨_, rfl⟩
  obtain ⟨i, hi⟩ : ∃ i, i = a + l / 4 * 1 := ⟨_, rfl⟩
  obtain ⟨j, hj⟩ : ∃ j, j = a + l / 4 * 2 := ⟨_, rfl⟩
  obtain ⟨m, hm⟩ : ∃ m, m = a + l / 4 * 3 := ⟨_, rfl⟩
  refine w_eq 10 (.int .i64 ((l : Nat) : Int)) rfl (int_eq (by omega)) ?_
  refine w_seq (wR ?_)
  apply lL (by kernel_rfl) rfl
  refine ld_alloc (hE.t rfl) (fun b11 => ?_)
  refine l_nil (aT (w_seq (wR ?_)))
  refine lY (yM rfl) rfl ?_
  refine lY (yM rfl) rfl ?_
  refine lY (y_quo rfl rfl (by omega) (by omega) (by omega)) rfl ?_
  refine lY (y_mul rfl rfl (by omega) (by omega)) rfl ?_
  refine lY (y_add rfl rfl (by omega) (by omega)) rfl ?_
  refine lY (yA rfl) rfl ?_
  refine l_nil (aT (w_seq (wR ?_)))
  refine lY (yM rfl) rfl ?_
  refine lY (yM rfl) rfl ?_
  refine lY (y_quo rfl rfl (by omega) (by omega) (by omega)) rfl ?_
  refine lY (y_mul rfl rfl (by omega) (by omega)) rfl ?_
  refine lY (y_add rfl rfl (by omega) (by omega)) rfl ?_
  refine lY (yA rfl) rfl ?_
  refine l_nil (aT (w_seq (wR ?_)))
  refine lY (yM rfl) rfl ?_
  refine lY (yM rfl) rfl ?_
  refine lY (y_quo rfl rfl (by omega) (by omega) (by omega)) rfl ?_
  refine lY (y_mul rfl rfl (by omega) (by omega)) rfl ?_
  refine lY (y_add rfl rfl (by omega) (by omega)) rfl ?_
  refine lY (yA rfl) rfl ?_
  refine l_nil (aT ?_)
  refine w_eq 12 (.int .i64 ((i : Nat) : Int)) rfl (int_eq (by omega)) ?_
  refine w_eq 13 (.int .i64 ((j : Nat) : Int)) rfl (int_eq (by omega)) ?_
  refine w_eq 14 (.int .i64 ((m : Nat) : Int)) rfl (int_eq (by omega)) ?_
  refine w_seq (w_seq (wR ?_))
  refine lY (yM rfl) rfl ?_
  refine lY (y_ge rfl rfl) rfl ?_
  refine l_nil (aT ?_)
  refine w_cond_d rfl (fun h8 => ?_) (fun h8 => ?_)
  · skip
    have hh : ∀ r : Nat × Nat, (if l ≥ 50 then Go.Sort.median (ltF cf) d (Go.Sort.medianAdjacent (ltF cf) d i 0).1 (Go.Sort.medianAdjacent (ltF cf) d j (Go.Sort.medianAdjacent (ltF cf) d i 0).2).1 (Go.Sort.medianAdjacent (ltF cf) d m (Go.Sort.medianAdjacent (ltF cf) d j (Go.Sort.medianAdjacent (ltF cf) d i 0).2).2).1 (Go.Sort.medianAdjacent (ltF cf) d m (Go.Sort.medianAdjacent (ltF cf) d j (Go.Sort.medianAdjacent (ltF cf) d i 0).2).2).2 else Go.Sort.median (ltF cf) d i j m 0) = r → Go.Sort.choosePivot (ltF cf) d a b = (r.1, if r.2 = 0 then .increasing else if r.2 = 12 then .decreasing else .unknown) := by
      intro r hr
      subst hr
      unfold Go.Sort.choosePivot
      simp only [← hl, ← hi, ← hj, ← hm, if_pos (show l ≥ 8 by omega)]
    skip
    refine w_seq (w_seq (wR ?_))
    refine lY (yM rfl) rfl ?_
    refine lY (y_ge rfl rfl) rfl ?_
    refine l_nil (aT ?_)
    refine w_cond_d rfl (fun h50 => ?_) (fun h50 => ?_)
    · skip
      rw [if_pos (show l ≥ 50 by omega)] at hh
      refine w_seq (wR ?_)
      refine lY (yM rfl) rfl ?_
      refine lY (yM rfl) rfl ?_
      refine lY (yM rfl) rfl ?_
      apply lL (by kernel_rfl) rfl
      apply ld_call (ct_medianAdjacent (a := i) (k := 0) hE hf hc hd (by omega) (by omega) hn (by omega)) rfl (hE.f (by kernel_rfl))
      · ((repeat constructor); done)
      rintro _ _ ⟨rfl, rfl⟩
      simp only [List.cons_append, List.nil_append]
      refine lY (yA rfl) rfl ?_
      refine l_nil (aT (w_seq (wR ?_)))
      refine lY (yM rfl) rfl ?_
      refine lY (yM rfl) rfl ?_
      refine lY (yM rfl) rfl ?_
      have c1 := (median_lt (lt := ltF cf) (d := d) (a := i - 1) (b := i) (e := i + 1) (k := 0) (m := n) (by omega) (by omega) (by omega))
      have c1' : (Go.Sort.medianAdjacent (ltF cf) d i 0).1 < n ∧ (Go.Sort.medianAdjacent (ltF cf) d i 0).2 ≤ 0 + 3 := c1
      apply lL (by kernel_rfl) rfl
      apply ld_call (ct_medianAdjacent (a := j) (k := (Go.Sort.medianAdjacent (ltF cf) d i 0).2) hE hf hc hd (by omega) (by omega) hn (by omega)) rfl (hE.f (by kernel_rfl))
      · ((repeat constructor); done)
      rintro _ _ ⟨rfl, rfl⟩
      simp only [List.cons_append, List.nil_append]
      refine lY (yA rfl) rfl ?_
      refine l_nil (aT (wR ?_))
      refine lY (yM rfl) rfl ?_
      refine lY (yM rfl) rfl ?_
      refine lY (yM rfl) rfl ?_
      have c2 := (median_lt (lt := ltF cf) (d := d) (a := j - 1) (b := j) (e := j + 1) (k := (Go.Sort.medianAdjacent (ltF cf) d i 0).2) (m := n) (by omega) (by omega) (by omega))
      have c2' : (Go.Sort.medianAdjacent (ltF cf) d j (Go.Sort.medianAdjacent (ltF cf) d i 0).2).1 < n ∧ (Go.Sort.medianAdjacent (ltF cf) d j (Go.Sort.medianAdjacent (ltF cf) d i 0).2).2 ≤ (Go.Sort.medianAdjacent (ltF cf) d i 0).2 + 3 := c2
      apply lL (by kernel_rfl) rfl
      apply ld_call (ct_medianAdjacent (a := m) (k := (Go.Sort.medianAdjacent (ltF cf) d j (Go.Sort.medianAdjacent (ltF cf) d i 0).2).2) hE hf hc hd (by omega) (by omega) hn (by omega)) rfl (hE.f (by kernel_rfl))
      · ((repeat constructor); done)
      rintro _ _ ⟨rfl, rfl⟩
      simp only [List.cons_append, List.nil_append]
      refine lY (yA rfl) rfl ?_
      refine l_nil (aT (wR ?_))
      refine lY (yM rfl) rfl ?_
      refine lY (yM rfl) rfl ?_
      refine lY (yM rfl) rfl ?_
      refine lY (yM rfl) rfl ?_
      refine lY (yM rfl) rfl ?_
      have c3 := (median_lt (lt := ltF cf) (d := d) (a := m - 1) (b := m) (e := m + 1) (k := (Go.Sort.medianAdjacent (ltF cf) d j (Go.Sort.medianAdjacent (ltF cf) d i 0).2).2) (m := n) (by omega) (by omega) (by omega))
      have c3' : (Go.Sort.medianAdjacent (ltF cf) d m (Go.Sort.medianAdjacent (ltF cf) d j (Go.Sort.medianAdjacent (ltF cf) d i 0).2).2).1 < n ∧ (Go.Sort.medianAdjacent (ltF cf) d m (Go.Sort.medianAdjacent (ltF cf) d j (Go.Sort.medianAdjacent (ltF cf) d i 0).2).2).2 ≤ (Go.Sort.medianAdjacent (ltF cf) d j (Go.Sort.medianAdjacent (ltF cf) d i 0).2).2 + 3 := c3
      clear c1 c2 c3
      generalize Go.Sort.medianAdjacent (ltF cf) d m (Go.Sort.medianAdjacent (ltF cf) d j (Go.Sort.medianAdjacent (ltF cf) d i 0).2).2 = r3 at *
      generalize Go.Sort.medianAdjacent (ltF cf) d j (Go.Sort.medianAdjacent (ltF cf) d i 0).2 = r2 at *
      generalize Go.Sort.medianAdjacent (ltF cf) d i 0 = r1 at *
      apply lL (by kernel_rfl) rfl
      apply ld_call (ct_median (a := r1.1) (b := r2.1) (e := r3.1) (k := r3.2) hE hf hc hd c1'.1 c2'.1 c3'.1 (by omega)) rfl (hE.f (by kernel_rfl))
      · ((repeat constructor); done)
      rintro _ _ ⟨rfl, rfl⟩
      simp only [List.cons_append, List.nil_append]
      generalize Go.Sort.median (ltF cf) d r1.1 r2.1 r3.1 r3.2 = r at *
      rw [hh r rfl]
      refine lY (yA rfl) rfl ?_
      refine l_nil (aT (w_seq (wR ?_)))
      apply lY
      · (apply y_load rfl (hE.t rfl) rfl; (repeat (first | rfl | assumption | constructor)); done)
      · rfl
      refine l_nil (aT (w_block (w_seq (wR ?_))))
      refine lY (y_eq rfl rfl) rfl ?_
      refine lY (yA rfl) rfl ?_
      refine l_nil (aT ?_)
      refine w_cond_d rfl (fun g0 => ?_) (fun g0 => ?_)
      · skip
        rw [if_pos (by omega)]
        refine w_seq (wR ?_)
        refine lY (yM rfl) rfl ?_
        refine lY (yA rfl) rfl ?_
        refine lY (yA rfl) rfl ?_
        refine l_nil (aT (w_ret (a_block_ret ?_)))
        apply a_ret
        · rfl
        · (apply Rs.tmp rfl; apply Rs.tmp rfl; exact Rs.nil)
        · exact ⟨rfl, rfl⟩
        · (apply ent; (repeat constructor); done)
      · skip
        rw [if_neg (by omega)]
        refine w_seq (wR ?_)
        refine lY (y_eq rfl rfl) rfl ?_
        refine lY (yA rfl) rfl ?_
        refine l_nil (aT ?_)
        refine w_cond_d rfl (fun g1 => ?_) (fun g1 => ?_)
        · skip
          rw [if_pos (by omega)]
          refine w_seq (wR ?_)
          refine lY (yM rfl) rfl ?_
          refine lY (yA rfl) rfl ?_
          refine lY (yA rfl) rfl ?_
          refine l_nil (aT (w_ret (a_block_ret ?_)))
          apply a_ret
          · rfl
          · (apply Rs.tmp rfl; apply Rs.tmp rfl; exact Rs.nil)
          · exact ⟨rfl, rfl⟩
          · (apply ent; (repeat constructor); done)
        · skip
          rw [if_neg (by omega)]
          refine w_seq (wR ?_)
          refine lY (yM rfl) rfl ?_
          refine lY (yA rfl) rfl ?_
          refine lY (yA rfl) rfl ?_
          refine l_nil (aT (w_ret (a_block_ret ?_)))
          apply a_ret
          · rfl
          · (apply Rs.tmp rfl; apply Rs.tmp rfl; exact Rs.nil)
          · exact ⟨rfl, rfl⟩
          · (apply ent; (repeat constructor); done)
    · skip
      rw [if_neg (show ¬ l ≥ 50 by omega)] at hh
      refine w_skip (aT (wR ?_))
      refine lY (yM rfl) rfl ?_
      refine lY (yM rfl) rfl ?_
      refine lY (yM rfl) rfl ?_
      refine lY (yM rfl) rfl ?_
      refine lY (yM rfl) rfl ?_
      apply lL (by kernel_rfl) rfl
      apply ld_call (ct_median (a := i) (b := j) (e := m) (k := 0) hE hf hc hd (by omega) (by omega) (by omega) (by omega)) rfl (hE.f (by kernel_rfl))
      · ((repeat constructor); done)
      rintro _ _ ⟨rfl, rfl⟩
      simp only [List.cons_append, List.nil_append]
      generalize Go.Sort.median (ltF cf) d i j m 0 = r at *
      rw [hh r rfl]
      refine lY (yA rfl) rfl ?_
      refine l_nil (aT (w_seq (wR ?_)))
      apply lY
      · (apply y_load rfl (hE.t rfl) rfl; (repeat (first | rfl | assumption | constructor)); done)
      · rfl
      refine l_nil (aT (w_block (w_seq (wR ?_))))
      refine lY (y_eq rfl rfl) rfl ?_
      refine lY (yA rfl) rfl ?_
      refine l_nil (aT ?_)
      refine w_cond_d rfl (fun g0 => ?_) (fun g0 => ?_)
      · skip
        rw [if_pos (by omega)]
        refine w_seq (wR ?_)
        refine lY (yM rfl) rfl ?_
        refine lY (yA rfl) rfl ?_
        refine lY (yA rfl) rfl ?_
        refine l_nil (aT (w_ret (a_block_ret ?_)))
        apply a_ret
        · rfl
        · (apply Rs.tmp rfl; apply Rs.tmp rfl; exact Rs.nil)
        · exact ⟨rfl, rfl⟩
        · (apply ent; (repeat constructor); done)
      · skip
        rw [if_neg (by omega)]
        refine w_seq (wR ?_)
        refine lY (y_eq rfl rfl) rfl ?_
        refine lY (yA rfl) rfl ?_
        refine l_nil (aT ?_)
        refine w_cond_d rfl (fun g1 => ?_) (fun g1 => ?_)
        · skip
          rw [if_pos (by omega)]
          refine w_seq (wR ?_)
          refine lY (yM rfl) rfl ?_
          refine lY (yA rfl) rfl ?_
          refine lY (yA rfl) rfl ?_
          refine l_nil (aT (w_ret (a_block_ret ?_)))
          apply a_ret
          · rfl
          · (apply Rs.tmp rfl; apply Rs.tmp rfl; exact Rs.nil)
          · exact ⟨rfl, rfl⟩
          · (apply ent; (repeat constructor); done)
        · skip
          rw [if_neg (by omega)]
          refine w_seq (wR ?_)
          refine lY (yM rfl) rfl ?_
          refine lY (yA rfl) rfl ?_
          refine lY (yA rfl) rfl ?_
          refine l_nil (aT (w_ret (a_block_ret ?_)))
          apply a_ret
          · rfl
          · (apply Rs.tmp rfl; apply Rs.tmp rfl; exact Rs.nil)
          · exact ⟨rfl, rfl⟩
          · (apply ent; (repeat constructor); done)
  · exfalso; omega
end Go.Proofs.YtekhbjlplfbdkaaGreatDoor
namespace Go.Proofs.YtekhbjlplfbdkaaGreatDoor
open Go Go.RowKit Sl Eg
set_option maxRecDepth 10000
variable {E : Env}
variable {fc : FuncId} {caps : List Value} {q : HP} {ok : Nat → Prop} {cf : Nat → Nat → Int} {g c n : Nat}
open Go.Sort in
theorem ct_reverseRange (hE : Seat E) {d : Array Nat} (hd : OkD ok n d) {a b : Nat} (hab : a < b) (hb : b ≤ n) (hn : n < 1099511627776) :
    Ct E 101 [.slice (some ⟨g, 0, none⟩) n c, .int .i64 (a : Nat), .int .i64 (b : Nat), .func (.func fc) #[] ⟨caps⟩] [sl (some ⟨g, 0, none⟩) c 27 1 n (dC d), q]
      (fun v Q => v = .tuple #[] ∧ Q = [sl (some ⟨g, 0, none⟩) c 27 1 n (dC (reverseRange d a b)), q] ∧ OkD ok n (reverseRange d a b)) := by
  refine fn_enter (hE.fn Tryz.func101) rfl rfl rfl (fun R => ?_)
  simp only [argsL, List.cons_append, List.nil_append]
  refine w_seq (wR ?_)
  refine lY (yM rfl) rfl ?_
  refine lY (yA rfl) rfl ?_
  refine l_nil (aT (w_seq (wR ?_)))
  refine lY (yM rfl) rfl ?_
  refine lY (y_sub rfl rfl (by omega) (by omega)) rfl ?_
  refine lY (yA rfl) rfl ?_
  refine l_nil (aT (w_block ?_))
  skip
  refine w_loop (fun x : Nat × Nat × Array Nat => [(0, .slice (some ⟨g, 0, none⟩) n c), (8, .int .i64 (x.1 : Nat)), (9, .int .i64 (x.2.1 : Nat))]) (fun x => [sl (some ⟨g, 0, none⟩) c 27 1 n (dC x.2.2), q, R]) (fun x => x.2.1 - x.1) (fun x => reverseLoop x.1 x.2.1 x.2.2 = reverseRange d a b ∧ OkD ok n x.2.2 ∧ x.2.1 < n ∧ x.1 ≤ n) (a, b - 1, d) ?_ ?_ ?_ ?_
  · exact ⟨rfl, hd, by show b - 1 < n; omega, by show a ≤ n; omega⟩
  · exact ⟨rfl, rfl, congrArg some (int_eq (by simp only; omega)), trivial⟩
  · (apply ent; (repeat constructor); done)
  rintro ⟨i, j, e⟩ ⟨he, hd', hj, hi⟩
  simp only at he hd' hj hi ⊢
  have hs := hd'.1
  skip
  refine w_seq (w_seq (wR ?_))
  refine lY (yM rfl) rfl ?_
  refine lY (yM rfl) rfl ?_
  refine lY (y_lt rfl rfl) rfl ?_
  refine l_nil (aT ?_)
  refine w_cond_d rfl (fun h1 => ?_) (fun h1 => ?_)
  · skip
    have f0 := dC_get e (i := i) (by omega) ((i : Int)).toNat (by omega)
    have f1 := dC_get e (i := j) (by omega) ((j : Int)).toNat (by omega)
    refine w_skip (aT ?_)
    refine w_block (w_seq ?_)
    refine w_stages 13 ([sl (some ⟨g, 0, none⟩) c 27 1 n (dC e), q]) [(15, [])] ?_ ?_
    · (apply ent; (repeat constructor); done)
    apply s_calm 0 rfl
    · exact yM rfl
    · with_reducible (repeat (first | exact cB | apply cT | apply cK))
    · kernel_rfl
    · kernel_rfl
    · rfl
    apply s_calm 1 rfl
    · exact yM rfl
    · with_reducible (repeat (first | exact cB | apply cT | apply cK))
    · kernel_rfl
    · kernel_rfl
    · rfl
    apply s_calm 2 rfl
    · exact yM rfl
    · with_reducible (repeat (first | exact cB | apply cT | apply cK))
    · kernel_rfl
    · kernel_rfl
    · rfl
    apply s_calm 3 rfl
    · exact yM rfl
    · with_reducible (repeat (first | exact cB | apply cT | apply cK))
    · kernel_rfl
    · kernel_rfl
    · rfl
    apply s_calm 4 rfl
    · exact yM rfl
    · with_reducible (repeat (first | exact cB | apply cT | apply cK))
    · kernel_rfl
    · kernel_rfl
    · rfl
    apply s_calm 5 rfl
    · exact yM rfl
    · with_reducible (repeat (first | exact cB | apply cT | apply cK))
    · kernel_rfl
    · kernel_rfl
    · rfl
    apply s_calm 6 rfl
    · (first | exact y_indexAddr1 rfl rfl (hE.t rfl) (by omega) (by omega) | exact y_indexAddr rfl rfl (hE.t rfl) (by omega) (by omega))
    · with_reducible (repeat (first | exact cB | apply cT | apply cK))
    · kernel_rfl
    · kernel_rfl
    · rfl
    apply s_take 7 rfl
    · (apply y_load rfl (hE.t rfl) rfl; (repeat (first | rfl | assumption | constructor)); done)
    · with_reducible (repeat (first | exact cB | apply cT | apply cK))
    · kernel_rfl
    · rfl
    apply s_calm 8 rfl
    · exact yM rfl
    · with_reducible (repeat (first | exact cB | apply cT | apply cK))
    · kernel_rfl
    · kernel_rfl
    · rfl
    apply s_calm 9 rfl
    · exact yM rfl
    · with_reducible (repeat (first | exact cB | apply cT | apply cK))
    · kernel_rfl
    · kernel_rfl
    · rfl
    apply s_calm 10 rfl
    · (first | exact y_indexAddr1 rfl rfl (hE.t rfl) (by omega) (by omega) | exact y_indexAddr rfl rfl (hE.t rfl) (by omega) (by omega))
    · with_reducible (repeat (first | exact cB | apply cT | apply cK))
    · kernel_rfl
    · kernel_rfl
    · rfl
    apply s_take 11 rfl
    · (apply y_load rfl (hE.t rfl) rfl; (repeat (first | rfl | assumption | constructor)); done)
    · with_reducible (repeat (first | exact cB | apply cT | apply cK))
    · kernel_rfl
    · rfl
    apply s_calm 12 rfl
    · (first | exact y_indexAddr1 rfl rfl (hE.t rfl) (by omega) (by omega) | exact y_indexAddr rfl rfl (hE.t rfl) (by omega) (by omega))
    · with_reducible (repeat (first | exact cB | apply cT | apply cK))
    · kernel_rfl
    · kernel_rfl
    · rfl
    apply s_next rfl (by kernel_rfl) rfl
    (first | (apply ld_store rfl rfl (hE.t rfl) rfl; (focus ((repeat constructor); done)); (focus rfl); (focus (exact Nat.le_of_ble_eq_true rfl))) | (apply ld_store_sl rfl rfl (hE.t rfl) rfl; (focus ((repeat constructor); done)); (focus rfl); (focus (first | omega | (simp only [cellsL, length_setMany, List.length_cons, List.length_nil]; omega)))))
    refine ⟨by (apply ent; (repeat constructor); done), ?_⟩
    apply s_calm 14 rfl
    · (first | exact y_indexAddr1 rfl rfl (hE.t rfl) (by omega) (by omega) | exact y_indexAddr rfl rfl (hE.t rfl) (by omega) (by omega))
    · with_reducible (repeat (first | exact cB | apply cT | apply cK))
    · kernel_rfl
    · kernel_rfl
    · rfl
    apply s_last rfl (by kernel_rfl) (by kernel_rfl) rfl
    (first | (apply ld_store rfl rfl (hE.t rfl) rfl; (focus ((repeat constructor); done)); (focus rfl); (focus (exact Nat.le_of_ble_eq_true rfl))) | (apply ld_store_sl rfl rfl (hE.t rfl) rfl; (focus ((repeat constructor); done)); (focus rfl); (focus (first | omega | (simp only [cellsL, length_setMany, List.length_cons, List.length_nil]; omega)))))
    refine aT (w_seq (wR ?_))
    refine lY (yM rfl) rfl ?_
    refine lY (y_add rfl rfl (by omega) (by omega)) rfl ?_
    refine lY (yA rfl) rfl ?_
    refine l_nil (aT (wR ?_))
    refine lY (yM rfl) rfl ?_
    refine lY (y_sub rfl rfl (by omega) (by omega)) rfl ?_
    refine lY (yA rfl) rfl ?_
    refine l_nil (a_block ?_)
    simp only [cellsL]
    rw [dC_swp e (i := i) (j := j) (by omega) (by omega)]
    case ho => omega
    case ho' => omega
    refine a_round (ι := Nat × Nat × Array Nat) (j := (i + 1, j - 1, swp e i j)) ⟨?_, hd'.swp (by omega) hj, by show j - 1 < n; omega, by show i + 1 ≤ n; omega⟩ (by show j - 1 - (i + 1) < j - i; omega) ⟨rfl, rfl, ?_, trivial⟩ (by (apply ent; (repeat constructor); done))
    · rw [← he]
      conv => rhs; rw [reverseLoop, if_pos (show i < j by omega)]
    · exact congrArg some (int_eq (by simp only; omega))
  · skip
    rw [reverseLoop, if_neg (show ¬ i < j by omega)] at he
    subst he
    refine w_exit (a_then_exit (a_then_exit (a_block_exit ?_)))
    apply a_end
    · rfl
    · (exact Rs.nil)
    · exact ⟨rfl, rfl, hd'⟩
    · (apply ent; (repeat constructor); done)
open Go.Sort in
theorem ct_insertionSort (hE : Seat E) (hf : goFn E.P fc = true) (hc : Cmp E fc caps q ok cf) {d : Array Nat} (hd : OkD ok n d) {a b : Nat} (hab : a ≤ b) (hb : b ≤ n) (hn : n < 1099511627776) :
    Ct E 97 [.slice (some ⟨g, 0, none⟩) n c, .int .i64 (a : Nat), .int .i64 (b : Nat), .func (.func fc) #[] ⟨caps⟩] [sl (some ⟨g, 0, none⟩) c 27 1 n (dC d), q]
      (fun v Q => v = .tuple #[] ∧ Q = [sl (some ⟨g, 0, none⟩) c 27 1 n (dC (insertionSort (ltF cf) d a b)), q] ∧ OkD ok n (insertionSort (ltF cf) d a b)) := by
  refine fn_enter (hE.fn Tryz.func97) rfl rfl rfl (fun R => ?_)
  simp only [argsL, List.cons_append, List.nil_append]
  refine w_seq (wR ?_)
  refine lY (yM rfl) rfl ?_
  refine lY (y_add rfl rfl (by omega) (by omega)) rfl ?_
  refine lY (yA rfl) rfl ?_
  refine l_nil (aT (w_block ?_))
  skip
  refine w_loop (fun x : Nat × Array Nat => [(0, .slice (some ⟨g, 0, none⟩) n c), (1, .int .i64 (a : Nat)), (2, .int .i64 (b : Nat)), (3, .func (.func fc) #[] ⟨caps⟩), (8, .int .i64 (x.1 : Nat))]) (fun x => [sl (some ⟨g, 0, none⟩) c 27 1 n (dC x.2), q, R]) (fun x => b - x.1) (fun x => insOuter (ltF cf) a b x.1 x.2 = insertionSort (ltF cf) d a b ∧ OkD ok n x.2 ∧ a + 1 ≤ x.1 ∧ x.1 ≤ n + 1) (a + 1, d) ?_ ?_ ?_ ?_
  · exact ⟨rfl, hd, Nat.le_refl _, by show a + 1 ≤ n + 1; omega⟩
  · exact ⟨rfl, rfl, rfl, rfl, congrArg some (int_eq (by simp only; omega)), trivial⟩
  · (apply ent; (repeat constructor); done)
  rintro ⟨i, e⟩ ⟨he, hd', hi, hi2⟩
  simp only at he hd' hi hi2 ⊢
  skip
  refine w_seq (w_seq (wR ?_))
  refine lY (yM rfl) rfl ?_
  refine lY (yM rfl) rfl ?_
  refine lY (y_lt rfl rfl) rfl ?_
  refine l_nil (aT ?_)
  refine w_cond_d rfl (fun h1 => ?_) (fun h1 => ?_)
  · skip
    rw [insOuter, if_pos (show i < b by omega)] at he
    refine w_skip (aT (w_seq (w_block (w_seq (wR ?_)))))
    refine lY (yM rfl) rfl ?_
    refine lY (yA rfl) rfl ?_
    refine l_nil (aT (w_block ?_))
    skip
    refine w_loop (fun x : Nat × Array Nat => [(0, .slice (some ⟨g, 0, none⟩) n c), (1, .int .i64 (a : Nat)), (2, .int .i64 (b : Nat)), (3, .func (.func fc) #[] ⟨caps⟩), (8, .int .i64 (i : Nat)), (9, .int .i64 (x.1 : Nat))]) (fun x => [sl (some ⟨g, 0, none⟩) c 27 1 n (dC x.2), q, R]) (fun x => x.1) (fun x => insInner (ltF cf) a x.1 x.2 = insInner (ltF cf) a i e ∧ OkD ok n x.2 ∧ x.1 ≤ i) (i, e) ?_ ?_ ?_ ?_
    · exact ⟨rfl, hd', Nat.le_refl _⟩
    · exact ⟨rfl, rfl, rfl, rfl, rfl, rfl, trivial⟩
    · (apply ent; (repeat constructor); done)
    rintro ⟨j, u⟩ ⟨hu, hdu, hj⟩
    simp only at hu hdu hj ⊢
    have hs := hdu.1
    skip
    refine w_seq (w_seq (w_draws (by kernel_rfl) ?_))
    refine lY (yM rfl) rfl ?_
    refine lY (yM rfl) rfl ?_
    refine lY (y_gt rfl rfl) rfl ?_
    refine lY (yM rfl) rfl ?_
    refine l_split 21 rfl (fun h2 => ?_) (fun h2 => ?_)
    · skip
      obtain ⟨j, rfl⟩ : ∃ k, j = k + 1 := ⟨j - 1, by omega⟩
      have f0 := dC_get u (i := j + 1) (by omega) (((j + 1 : Nat) : Int)).toNat (by omega)
      have f1 := dC_get u (i := j) (by omega) (((j + 1 : Nat) : Int) - 1).toNat (by omega)
      have hcc := hc _ _ (hdu.2 (j + 1) (by omega)) (hdu.2 j (by omega))
      refine l_on rfl rfl ?_
      refine lY (yM rfl) rfl ?_
      refine l_on rfl rfl ?_
      refine lY (yM rfl) rfl ?_
      refine l_on rfl rfl ?_
      refine lY (yM rfl) rfl ?_
      refine l_on rfl rfl ?_
      apply lY
      · (first | exact y_indexAddr1 rfl rfl (hE.t rfl) (by omega) (by omega) | exact y_indexAddr rfl rfl (hE.t rfl) (by omega) (by omega))
      · rfl
      refine l_on rfl rfl ?_
      apply lY
      · (apply y_load rfl (hE.t rfl) rfl; (repeat (first | rfl | assumption | constructor)); done)
      · rfl
      refine l_on rfl rfl ?_
      refine lY (yM rfl) rfl ?_
      refine l_on rfl rfl ?_
      refine lY (yM rfl) rfl ?_
      refine l_on rfl rfl ?_
      refine lY (y_sub rfl rfl (by omega) (by omega)) rfl ?_
      refine l_on rfl rfl ?_
      apply lY
      · (first | exact y_indexAddr1 rfl rfl (hE.t rfl) (by omega) (by omega) | exact y_indexAddr rfl rfl (hE.t rfl) (by omega) (by omega))
      · rfl
      refine l_on rfl rfl ?_
      apply lY
      · (apply y_load rfl (hE.t rfl) rfl; (repeat (first | rfl | assumption | constructor)); done)
      · rfl
      refine l_on rfl rfl ?_
      apply lL (by kernel_rfl) rfl
      apply ld_callv (hx := rfl) (ha := rfl) (hf := hf)
      · exact hcc
      · ((repeat constructor); done)
      rintro _ _ ⟨rfl, rfl⟩
      simp only [List.cons_append, List.nil_append]
      refine l_on rfl rfl ?_
      refine lY (y_lt rfl rfl) rfl ?_
      apply lY
      · (first | exact y_pick_t rfl rfl | exact y_pick_f rfl rfl)
      · rfl
      refine l_nil (aT ?_)
      refine w_cond_d rfl (fun h3 => ?_) (fun h3 => ?_)
      · skip
        refine w_skip (aT ?_)
        refine w_seq (w_block ?_)
        refine w_stages 15 ([sl (some ⟨g, 0, none⟩) c 27 1 n (dC u), q]) [(17, [])] ?_ ?_
        · (apply ent; (repeat constructor); done)
        apply s_calm 0 rfl
        · exact yM rfl
        · with_reducible (repeat (first | exact cB | apply cT | apply cK))
        · kernel_rfl
        · kernel_rfl
        · rfl
        apply s_calm 1 rfl
        · exact yM rfl
        · with_reducible (repeat (first | exact cB | apply cT | apply cK))
        · kernel_rfl
        · kernel_rfl
        · rfl
        apply s_calm 2 rfl
        · exact yM rfl
        · with_reducible (repeat (first | exact cB | apply cT | apply cK))
        · kernel_rfl
        · kernel_rfl
        · rfl
        apply s_calm 3 rfl
        · exact yM rfl
        · with_reducible (repeat (first | exact cB | apply cT | apply cK))
        · kernel_rfl
        · kernel_rfl
        · rfl
        apply s_calm 4 rfl
        · exact y_sub rfl rfl (by omega) (by omega)
        · with_reducible (repeat (first | exact cB | apply cT | apply cK))
        · kernel_rfl
        · kernel_rfl
        · rfl
        apply s_calm 5 rfl
        · exact yM rfl
        · with_reducible (repeat (first | exact cB | apply cT | apply cK))
        · kernel_rfl
        · kernel_rfl
        · rfl
        apply s_calm 6 rfl
        · exact yM rfl
        · with_reducible (repeat (first | exact cB | apply cT | apply cK))
        · kernel_rfl
        · kernel_rfl
        · rfl
        apply s_calm 7 rfl
        · exact y_sub rfl rfl (by omega) (by omega)
        · with_reducible (repeat (first | exact cB | apply cT | apply cK))
        · kernel_rfl
        · kernel_rfl
        · rfl
        apply s_calm 8 rfl
        · (first | exact y_indexAddr1 rfl rfl (hE.t rfl) (by omega) (by omega) | exact y_indexAddr rfl rfl (hE.t rfl) (by omega) (by omega))
        · with_reducible (repeat (first | exact cB | apply cT | apply cK))
        · kernel_rfl
        · kernel_rfl
        · rfl
        apply s_take 9 rfl
        · (apply y_load rfl (hE.t rfl) rfl; (repeat (first | rfl | assumption | constructor)); done)
        · with_reducible (repeat (first | exact cB | apply cT | apply cK))
        · kernel_rfl
        · rfl
        apply s_calm 10 rfl
        · exact yM rfl
        · with_reducible (repeat (first | exact cB | apply cT | apply cK))
        · kernel_rfl
        · kernel_rfl
        · rfl
        apply s_calm 11 rfl
        · exact yM rfl
        · with_reducible (repeat (first | exact cB | apply cT | apply cK))
        · kernel_rfl
        · kernel_rfl
        · rfl
        apply s_calm 12 rfl
        · (first | exact y_indexAddr1 rfl rfl (hE.t rfl) (by omega) (by omega) | exact y_indexAddr rfl rfl (hE.t rfl) (by omega) (by omega))
        · with_reducible (repeat (first | exact cB | apply cT | apply cK))
        · kernel_rfl
        · kernel_rfl
        · rfl
        apply s_take 13 rfl
        · (apply y_load rfl (hE.t rfl) rfl; (repeat (first | rfl | assumption | constructor)); done)
        · with_reducible (repeat (first | exact cB | apply cT | apply cK))
        · kernel_rfl
        · rfl
        apply s_calm 14 rfl
        · (first | exact y_indexAddr1 rfl rfl (hE.t rfl) (by omega) (by omega) | exact y_indexAddr rfl rfl (hE.t rfl) (by omega) (by omega))
        · with_reducible (repeat (first | exact cB | apply cT | apply cK))
        · kernel_rfl
        · kernel_rfl
        · rfl
        apply s_next rfl (by kernel_rfl) rfl
        (first | (apply ld_store rfl rfl (hE.t rfl) rfl; (focus ((repeat constructor); done)); (focus rfl); (focus (exact Nat.le_of_ble_eq_true rfl))) | (apply ld_store_sl rfl rfl (hE.t rfl) rfl; (focus ((repeat constructor); done)); (focus rfl); (focus (first | omega | (simp only [cellsL, length_setMany, List.length_cons, List.length_nil]; omega)))))
        refine ⟨by (apply ent; (repeat constructor); done), ?_⟩
        apply s_calm 16 rfl
        · (first | exact y_indexAddr1 rfl rfl (hE.t rfl) (by omega) (by omega) | exact y_indexAddr rfl rfl (hE.t rfl) (by omega) (by omega))
        · with_reducible (repeat (first | exact cB | apply cT | apply cK))
        · kernel_rfl
        · kernel_rfl
        · rfl
        apply s_last rfl (by kernel_rfl) (by kernel_rfl) rfl
        (first | (apply ld_store rfl rfl (hE.t rfl) rfl; (focus ((repeat constructor); done)); (focus rfl); (focus (exact Nat.le_of_ble_eq_true rfl))) | (apply ld_store_sl rfl rfl (hE.t rfl) rfl; (focus ((repeat constructor); done)); (focus rfl); (focus (first | omega | (simp only [cellsL, length_setMany, List.length_cons, List.length_nil]; omega)))))
        refine a_block (aT (wR ?_))
        refine lY (yM rfl) rfl ?_
        refine lY (y_sub rfl rfl (by omega) (by omega)) rfl ?_
        refine lY (yA rfl) rfl ?_
        refine l_nil ?_
        simp only [cellsL]
        rw [dC_swp u (i := (j + 1)) (j := j) (by omega) (by omega)]
        case ho => omega
        case ho' => omega
        refine a_round (ι := Nat × Array Nat) (j := (j, swp u (j + 1) j)) ⟨?_, hdu.swp (by omega) (by omega), by show j ≤ i; omega⟩ (by show j < j + 1; omega) ⟨rfl, rfl, rfl, rfl, rfl, congrArg some (int_eq (by simp only; omega)), trivial⟩ (by (apply ent; (repeat constructor); done))
        rw [← hu]
        conv => rhs; rw [insInner, if_pos (by simp [ltF, h3]; omega)]
      · skip
        rw [insInner, if_neg (by simp [ltF, h3])] at hu
        rw [← hu] at he
        refine w_exit (a_then_exit (a_then_exit (a_block_exit (a_block (aT (wR ?_))))))
        refine lY (yM rfl) rfl ?_
        refine lY (y_add rfl rfl (by omega) (by omega)) rfl ?_
        refine lY (yA rfl) rfl ?_
        refine l_nil ?_
        refine a_round (ι := Nat × Array Nat) (j := (i + 1, u)) ⟨he, hdu, by show a + 1 ≤ i + 1; omega, by show i + 1 ≤ n + 1; omega⟩ (by show b - (i + 1) < b - i; omega) ⟨rfl, rfl, rfl, rfl, congrArg some (int_eq (by simp only; omega)), trivial⟩ (by (apply ent; (repeat constructor); done))
    · skip
      have hu' : u = insInner (ltF cf) a i e := by
        rw [← hu]
        cases j with
        | zero => rfl
        | succ j => rw [insInner, if_neg (by simp; omega)]
      rw [← hu'] at he
      refine l_off rfl rfl rfl rfl (l_off rfl rfl rfl rfl (l_off rfl rfl rfl rfl (l_off rfl rfl rfl rfl (l_off rfl rfl rfl rfl (l_off rfl rfl rfl rfl (l_off rfl rfl rfl rfl (l_off rfl rfl rfl rfl ?_)))))))
      refine l_off rfl rfl rfl rfl (l_off rfl rfl rfl rfl (l_off rfl rfl rfl rfl (l_off rfl rfl rfl rfl ?_)))
      apply lY
      · (first | exact y_pick_t rfl rfl | exact y_pick_f rfl rfl)
      · rfl
      refine l_nil (aT ?_)
      refine w_cond_f rfl ?_
      refine w_exit (a_then_exit (a_then_exit (a_block_exit (a_block (aT (wR ?_))))))
      refine lY (yM rfl) rfl ?_
      refine lY (y_add rfl rfl (by omega) (by omega)) rfl ?_
      refine lY (yA rfl) rfl ?_
      refine l_nil ?_
      refine a_round (ι := Nat × Array Nat) (j := (i + 1, u)) ⟨he, hdu, by show a + 1 ≤ i + 1; omega, by show i + 1 ≤ n + 1; omega⟩ (by show b - (i + 1) < b - i; omega) ⟨rfl, rfl, rfl, rfl, congrArg some (int_eq (by simp only; omega)), trivial⟩ (by (apply ent; (repeat constructor); done))
  · skip
    rw [insOuter, if_neg (show ¬ i < b by omega)] at he
    subst he
    refine w_exit (a_then_exit (a_then_exit (a_block_exit ?_)))
    apply a_end
    · rfl
    · (exact Rs.nil)
    · exact ⟨rfl, rfl, hd'⟩
    · (apply ent; (repeat constructor); done)
open Go.Sort in
theorem siftDown_ch {lt : Nat → Nat → Bool} {hi first root ch : Nat} {d : Array Nat} (h : ¬ 2 * root + 1 ≥ hi) (hc : ch < hi) (e : if 2 * root + 1 + 1 < hi && lt d[first + (2 * root + 1)]! d[first + (2 * root + 1) + 1]! then ch = 2 * root + 2 else ch = 2 * root + 1) :
    siftDown lt hi first root d = if !lt d[first + root]! d[first + ch]! then d else siftDown lt hi first ch (swp d (first + root) (first + ch)) := by
  rw [siftDown, dif_neg h]
  split at e
  · rename_i h1
    subst e
    rw [if_pos h1]
    split
    · rfl
    · first | rw [dif_pos hc] | rfl
  · rename_i h1
    subst e
    rw [if_neg h1]
open Go.Sort in
theorem ct_siftDown (hE : Seat E) (hf : goFn E.P fc = true) (hc : Cmp E fc caps q ok cf) {d : Array Nat} (hd : OkD ok n d) {lo hi first : Nat} (hlo : lo ≤ n) (hb : first + hi ≤ n) (hn : n < 1099511627776) :
    Ct E 128 [.slice (some ⟨g, 0, none⟩) n c, .int .i64 (lo : Nat), .int .i64 (hi : Nat), .int .i64 (first : Nat), .func (.func fc) #[] ⟨caps⟩] [sl (some ⟨g, 0, none⟩) c 27 1 n (dC d), q]
      (fun v Q => v = .tuple #[] ∧ Q = [sl (some ⟨g, 0, none⟩) c 27 1 n (dC (siftDown (ltF cf) hi first lo d)), q] ∧ OkD ok n (siftDown (ltF cf) hi first lo d)) := by
  refine fn_enter (hE.fn Tryz.func128) rfl rfl rfl (fun R => ?_)
  simp only [argsL, List.cons_append, List.nil_append]
  refine w_seq (wR ?_)
  refine lY (yM rfl) rfl ?_
  refine lY (yA rfl) rfl ?_
  refine l_nil (aT (w_block ?_))
  skip
  refine w_loop (fun x : Nat × Array Nat => [(0, .slice (some ⟨g, 0, none⟩) n c), (2, .int .i64 (hi : Nat)), (3, .int .i64 (first : Nat)), (4, .func (.func fc) #[] ⟨caps⟩), (10, .int .i64 (x.1 : Nat))]) (fun x => [sl (some ⟨g, 0, none⟩) c 27 1 n (dC x.2), q, R]) (fun x => hi - x.1) (fun x => siftDown (ltF cf) hi first x.1 x.2 = siftDown (ltF cf) hi first lo d ∧ OkD ok n x.2 ∧ x.1 ≤ n) (lo, d) ?_ ?_ ?_ ?_
  · exact ⟨rfl, hd, hlo⟩
  · exact ⟨rfl, rfl, rfl, rfl, rfl, trivial⟩
  · (apply ent; (repeat constructor); done)
  rintro ⟨ro, e⟩ ⟨he, hd', hro⟩
  simp only at he hd' hro ⊢
  have hs := hd'.1
  skip
  refine w_block (w_seq (wR ?_))
  refine lY (yM rfl) rfl ?_
  refine lY (y_mul rfl rfl (by omega) (by omega)) rfl ?_
  refine lY (y_add rfl rfl (by omega) (by omega)) rfl ?_
  refine lY (yA rfl) rfl ?_
  refine l_nil (aT (w_seq (w_seq (wR ?_))))
  refine lY (yM rfl) rfl ?_
  refine lY (yM rfl) rfl ?_
  refine lY (y_ge rfl rfl) rfl ?_
  refine l_nil (aT ?_)
  refine w_cond_d rfl (fun h1 => ?_) (fun h1 => ?_)
  · skip
    rw [siftDown, dif_pos (show 2 * ro + 1 ≥ hi by omega)] at he
    subst he
    refine w_exit (a_then_exit (a_block_far rfl (a_then_exit (a_block_exit ?_))))
    apply a_end
    · rfl
    · (exact Rs.nil)
    · exact ⟨rfl, rfl, hd'⟩
    · (apply ent; (repeat constructor); done)
  · skip
    refine w_skip (aT (w_seq (w_seq (w_draws (by kernel_rfl) ?_))))
    refine lY (yM rfl) rfl ?_
    refine lY (y_add rfl rfl (by omega) (by omega)) rfl ?_
    refine lY (yM rfl) rfl ?_
    refine lY (y_lt rfl rfl) rfl ?_
    refine lY (yM rfl) rfl ?_
    refine l_split 23 rfl (fun h2 => ?_) (fun h2 => ?_)
    · skip
      have f0 := dC_get e (i := first + (2 * ro + 1)) (by omega) ((first : Int) + (2 * (ro : Int) + 1)).toNat (by omega)
      have f1 := dC_get e (i := first + (2 * ro + 1) + 1) (by omega) ((first : Int) + (2 * (ro : Int) + 1) + 1).toNat (by omega)
      have hcc := hc _ _ (hd'.2 (first + (2 * ro + 1)) (by omega)) (hd'.2 (first + (2 * ro + 1) + 1) (by omega))
      refine l_on rfl rfl ?_
      refine lY (yM rfl) rfl ?_
      refine l_on rfl rfl ?_
      refine lY (yM rfl) rfl ?_
      refine l_on rfl rfl ?_
      refine lY (yM rfl) rfl ?_
      refine l_on rfl rfl ?_
      refine lY (yM rfl) rfl ?_
      refine l_on rfl rfl ?_
      refine lY (y_add rfl rfl (by omega) (by omega)) rfl ?_
      refine l_on rfl rfl ?_
      apply lY
      · (first | exact y_indexAddr1 rfl rfl (hE.t rfl) (by omega) (by omega) | exact y_indexAddr rfl rfl (hE.t rfl) (by omega) (by omega))
      · rfl
      refine l_on rfl rfl ?_
      apply lY
      · (apply y_load rfl (hE.t rfl) rfl; (repeat (first | rfl | assumption | constructor)); done)
      · rfl
      refine l_on rfl rfl ?_
      refine lY (yM rfl) rfl ?_
      refine l_on rfl rfl ?_
      refine lY (yM rfl) rfl ?_
      refine l_on rfl rfl ?_
      refine lY (yM rfl) rfl ?_
      refine l_on rfl rfl ?_
      refine lY (y_add rfl rfl (by omega) (by omega)) rfl ?_
      refine l_on rfl rfl ?_
      refine lY (y_add rfl rfl (by omega) (by omega)) rfl ?_
      refine l_on rfl rfl ?_
      apply lY
      · (first | exact y_indexAddr1 rfl rfl (hE.t rfl) (by omega) (by omega) | exact y_indexAddr rfl rfl (hE.t rfl) (by omega) (by omega))
      · rfl
      refine l_on rfl rfl ?_
      apply lY
      · (apply y_load rfl (hE.t rfl) rfl; (repeat (first | rfl | assumption | constructor)); done)
      · rfl
      refine l_on rfl rfl ?_
      apply lL (by kernel_rfl) rfl
      apply ld_callv (hx := rfl) (ha := rfl) (hf := hf)
      · exact hcc
      · ((repeat constructor); done)
      rintro _ _ ⟨rfl, rfl⟩
      simp only [List.cons_append, List.nil_append]
      refine l_on rfl rfl ?_
      refine lY (y_lt rfl rfl) rfl ?_
      apply lY
      · (first | exact y_pick_t rfl rfl | exact y_pick_f rfl rfl)
      · rfl
      refine l_nil (aT ?_)
      refine w_cond_d rfl (fun h3 => ?_) (fun h3 => ?_)
      · skip
        have hk := siftDown_ch (lt := ltF cf) (d := e) (first := first) (show ¬ 2 * ro + 1 ≥ hi by omega) (show 2 * ro + 2 < hi by omega) (by rw [if_pos (by simp [ltF, h3]; omega)])
        refine wR ?_
        refine lY (yM rfl) rfl ?_
        refine lY (y_add rfl rfl (by omega) (by omega)) rfl ?_
        refine lY (yA rfl) rfl ?_
        refine l_nil (aT ?_)
        refine w_eq 11 (.int .i64 ((2 * ro + 2 : Nat) : Int)) rfl (int_eq (by omega)) ?_
        rw [hk] at he
        have f2 := dC_get e (i := first + ro) (by omega) ((first : Int) + (ro : Int)).toNat (by omega)
        have f3 := dC_get e (i := first + (2 * ro + 2)) (by omega) ((first : Int) + ((2 * ro + 2 : Nat) : Int)).toNat (by omega)
        have hcd := hc _ _ (hd'.2 (first + ro) (by omega)) (hd'.2 (first + (2 * ro + 2)) (by omega))
        refine w_seq (w_seq (w_draws (by kernel_rfl) ?_))
        refine lY (yM rfl) rfl ?_
        refine lY (yM rfl) rfl ?_
        refine lY (yM rfl) rfl ?_
        refine lY (yM rfl) rfl ?_
        refine lY (y_add rfl rfl (by omega) (by omega)) rfl ?_
        apply lY
        · (first | exact y_indexAddr1 rfl rfl (hE.t rfl) (by omega) (by omega) | exact y_indexAddr rfl rfl (hE.t rfl) (by omega) (by omega))
        · rfl
        apply lY
        · (apply y_load rfl (hE.t rfl) rfl; (repeat (first | rfl | assumption | constructor)); done)
        · rfl
        refine lY (yM rfl) rfl ?_
        refine lY (yM rfl) rfl ?_
        refine lY (yM rfl) rfl ?_
        refine lY (y_add rfl rfl (by omega) (by omega)) rfl ?_
        apply lY
        · (first | exact y_indexAddr1 rfl rfl (hE.t rfl) (by omega) (by omega) | exact y_indexAddr rfl rfl (hE.t rfl) (by omega) (by omega))
        · rfl
        apply lY
        · (apply y_load rfl (hE.t rfl) rfl; (repeat (first | rfl | assumption | constructor)); done)
        · rfl
        apply lL (by kernel_rfl) rfl
        apply ld_callv (hx := rfl) (ha := rfl) (hf := hf)
        · exact hcd
        · ((repeat constructor); done)
        rintro _ _ ⟨rfl, rfl⟩
        simp only [List.cons_append, List.nil_append]
        refine lY (y_lt rfl rfl) rfl ?_
        refine lY (y_not rfl) rfl ?_
        refine l_nil (aT ?_)
        refine w_cond_nd rfl (fun h5 => ?_) (fun h5 => ?_)
        · skip
          rw [if_pos (by simp [ltF, h5])] at he
          subst he
          refine w_ret (a_then_ret (a_block_ret (a_then_ret (a_block_ret ?_))))
          apply a_ret
          · rfl
          · (exact Rs.nil)
          · exact ⟨rfl, rfl, hd'⟩
          · (apply ent; (repeat constructor); done)
        · skip
          rw [if_neg (by simp [ltF, h5])] at he
          refine w_skip (aT ?_)
          refine w_seq ?_
          refine w_stages 21 ([sl (some ⟨g, 0, none⟩) c 27 1 n (dC e), q]) [(23, [])] ?_ ?_
          · (apply ent; (repeat constructor); done)
          apply s_calm 0 rfl
          · exact yM rfl
          · with_reducible (repeat (first | exact cB | apply cT | apply cK))
          · kernel_rfl
          · kernel_rfl
          · rfl
          apply s_calm 1 rfl
          · exact yM rfl
          · with_reducible (repeat (first | exact cB | apply cT | apply cK))
          · kernel_rfl
          · kernel_rfl
          · rfl
          apply s_calm 2 rfl
          · exact yM rfl
          · with_reducible (repeat (first | exact cB | apply cT | apply cK))
          · kernel_rfl
          · kernel_rfl
          · rfl
          apply s_calm 3 rfl
          · exact y_add rfl rfl (by omega) (by omega)
          · with_reducible (repeat (first | exact cB | apply cT | apply cK))
          · kernel_rfl
          · kernel_rfl
          · rfl
          apply s_calm 4 rfl
          · exact yM rfl
          · with_reducible (repeat (first | exact cB | apply cT | apply cK))
          · kernel_rfl
          · kernel_rfl
          · rfl
          apply s_calm 5 rfl
          · exact yM rfl
          · with_reducible (repeat (first | exact cB | apply cT | apply cK))
          · kernel_rfl
          · kernel_rfl
          · rfl
          apply s_calm 6 rfl
          · exact yM rfl
          · with_reducible (repeat (first | exact cB | apply cT | apply cK))
          · kernel_rfl
          · kernel_rfl
          · rfl
          apply s_calm 7 rfl
          · exact y_add rfl rfl (by omega) (by omega)
          · with_reducible (repeat (first | exact cB | apply cT | apply cK))
          · kernel_rfl
          · kernel_rfl
          · rfl
          apply s_calm 8 rfl
          · exact yM rfl
          · with_reducible (repeat (first | exact cB | apply cT | apply cK))
          · kernel_rfl
          · kernel_rfl
          · rfl
          apply s_calm 9 rfl
          · exact yM rfl
          · with_reducible (repeat (first | exact cB | apply cT | apply cK))
          · kernel_rfl
          · kernel_rfl
          · rfl
          apply s_calm 10 rfl
          · exact yM rfl
          · with_reducible (repeat (first | exact cB | apply cT | apply cK))
          · kernel_rfl
          · kernel_rfl
          · rfl
          apply s_calm 11 rfl
          · exact y_add rfl rfl (by omega) (by omega)
          · with_reducible (repeat (first | exact cB | apply cT | apply cK))
          · kernel_rfl
          · kernel_rfl
          · rfl
          apply s_calm 12 rfl
          · (first | exact y_indexAddr1 rfl rfl (hE.t rfl) (by omega) (by omega) | exact y_indexAddr rfl rfl (hE.t rfl) (by omega) (by omega))
          · with_reducible (repeat (first | exact cB | apply cT | apply cK))
          · kernel_rfl
          · kernel_rfl
          · rfl
          apply s_take 13 rfl
          · (apply y_load rfl (hE.t rfl) rfl; (repeat (first | rfl | assumption | constructor)); done)
          · with_reducible (repeat (first | exact cB | apply cT | apply cK))
          · kernel_rfl
          · rfl
          apply s_calm 14 rfl
          · exact yM rfl
          · with_reducible (repeat (first | exact cB | apply cT | apply cK))
          · kernel_rfl
          · kernel_rfl
          · rfl
          apply s_calm 15 rfl
          · exact yM rfl
          · with_reducible (repeat (first | exact cB | apply cT | apply cK))
          · kernel_rfl
          · kernel_rfl
          · rfl
          apply s_calm 16 rfl
          · exact yM rfl
          · with_reducible (repeat (first | exact cB | apply cT | apply cK))
          · kernel_rfl
          · kernel_rfl
          · rfl
          apply s_calm 17 rfl
          · exact y_add rfl rfl (by omega) (by omega)
          · with_reducible (repeat (first | exact cB | apply cT | apply cK))
          · kernel_rfl
          · kernel_rfl
          · rfl
          apply s_calm 18 rfl
          · (first | exact y_indexAddr1 rfl rfl (hE.t rfl) (by omega) (by omega) | exact y_indexAddr rfl rfl (hE.t rfl) (by omega) (by omega))
          · with_reducible (repeat (first | exact cB | apply cT | apply cK))
          · kernel_rfl
          · kernel_rfl
          · rfl
          apply s_take 19 rfl
          · (apply y_load rfl (hE.t rfl) rfl; (repeat (first | rfl | assumption | constructor)); done)
          · with_reducible (repeat (first | exact cB | apply cT | apply cK))
          · kernel_rfl
          · rfl
          apply s_calm 20 rfl
          · (first | exact y_indexAddr1 rfl rfl (hE.t rfl) (by omega) (by omega) | exact y_indexAddr rfl rfl (hE.t rfl) (by omega) (by omega))
          · with_reducible (repeat (first | exact cB | apply cT | apply cK))
          · kernel_rfl
          · kernel_rfl
          · rfl
          apply s_next rfl (by kernel_rfl) rfl
          (first | (apply ld_store rfl rfl (hE.t rfl) rfl; (focus ((repeat constructor); done)); (focus rfl); (focus (exact Nat.le_of_ble_eq_true rfl))) | (apply ld_store_sl rfl rfl (hE.t rfl) rfl; (focus ((repeat constructor); done)); (focus rfl); (focus (first | omega | (simp only [cellsL, length_setMany, List.length_cons, List.length_nil]; omega)))))
          refine ⟨by (apply ent; (repeat constructor); done), ?_⟩
          apply s_calm 22 rfl
          · (first | exact y_indexAddr1 rfl rfl (hE.t rfl) (by omega) (by omega) | exact y_indexAddr rfl rfl (hE.t rfl) (by omega) (by omega))
          · with_reducible (repeat (first | exact cB | apply cT | apply cK))
          · kernel_rfl
          · kernel_rfl
          · rfl
          apply s_last rfl (by kernel_rfl) (by kernel_rfl) rfl
          (first | (apply ld_store rfl rfl (hE.t rfl) rfl; (focus ((repeat constructor); done)); (focus rfl); (focus (exact Nat.le_of_ble_eq_true rfl))) | (apply ld_store_sl rfl rfl (hE.t rfl) rfl; (focus ((repeat constructor); done)); (focus rfl); (focus (first | omega | (simp only [cellsL, length_setMany, List.length_cons, List.length_nil]; omega)))))
          refine aT (wR ?_)
          refine lY (yM rfl) rfl ?_
          refine lY (yA rfl) rfl ?_
          refine l_nil (a_block ?_)
          simp only [cellsL]
          rw [dC_swp e (i := (first + ro)) (j := (first + (2 * ro + 2))) (by omega) (by omega)]
          case ho => omega
          case ho' => omega
          refine a_round (ι := Nat × Array Nat) (j := (2 * ro + 2, swp e (first + ro) (first + (2 * ro + 2)))) ⟨he, hd'.swp (by omega) (by omega), by show 2 * ro + 2 ≤ n; omega⟩ (by show hi - (2 * ro + 2) < hi - ro; omega) ⟨rfl, rfl, rfl, rfl, rfl, trivial⟩ (by (apply ent; (repeat constructor); done))
      · skip
        have hk := siftDown_ch (lt := ltF cf) (d := e) (first := first) (show ¬ 2 * ro + 1 ≥ hi by omega) (show 2 * ro + 1 < hi by omega) (by rw [if_neg (by simp [ltF, h3])])
        refine w_skip (aT ?_)
        refine w_eq 11 (.int .i64 ((2 * ro + 1 : Nat) : Int)) rfl (int_eq (by omega)) ?_
        rw [hk] at he
        have f2 := dC_get e (i := first + ro) (by omega) ((first : Int) + (ro : Int)).toNat (by omega)
        have f3 := dC_get e (i := first + (2 * ro + 1)) (by omega) ((first : Int) + ((2 * ro + 1 : Nat) : Int)).toNat (by omega)
        have hcd := hc _ _ (hd'.2 (first + ro) (by omega)) (hd'.2 (first + (2 * ro + 1)) (by omega))
        refine w_seq (w_seq (w_draws (by kernel_rfl) ?_))
        refine lY (yM rfl) rfl ?_
        refine lY (yM rfl) rfl ?_
        refine lY (yM rfl) rfl ?_
        refine lY (yM rfl) rfl ?_
        refine lY (y_add rfl rfl (by omega) (by omega)) rfl ?_
        apply lY
        · (first | exact y_indexAddr1 rfl rfl (hE.t rfl) (by omega) (by omega) | exact y_indexAddr rfl rfl (hE.t rfl) (by omega) (by omega))
        · rfl
        apply lY
        · (apply y_load rfl (hE.t rfl) rfl; (repeat (first | rfl | assumption | constructor)); done)
        · rfl
        refine lY (yM rfl) rfl ?_
        refine lY (yM rfl) rfl ?_
        refine lY (yM rfl) rfl ?_
        refine lY (y_add rfl rfl (by omega) (by omega)) rfl ?_
        apply lY
        · (first | exact y_indexAddr1 rfl rfl (hE.t rfl) (by omega) (by omega) | exact y_indexAddr rfl rfl (hE.t rfl) (by omega) (by omega))
        · rfl
        apply lY
        · (apply y_load rfl (hE.t rfl) rfl; (repeat (first | rfl | assumption | constructor)); done)
        · rfl
        apply lL (by kernel_rfl) rfl
        apply ld_callv (hx := rfl) (ha := rfl) (hf := hf)
        · exact hcd
        · ((repeat constructor); done)
        rintro _ _ ⟨rfl, rfl⟩
        simp only [List.cons_append, List.nil_append]
        refine lY (y_lt rfl rfl) rfl ?_
        refine lY (y_not rfl) rfl ?_
        refine l_nil (aT ?_)
        refine w_cond_nd rfl (fun h5 => ?_) (fun h5 => ?_)
        · skip
          rw [if_pos (by simp [ltF, h5])] at he
          subst he
          refine w_ret (a_then_ret (a_block_ret (a_then_ret (a_block_ret ?_))))
          apply a_ret
          · rfl
          · (exact Rs.nil)
          · exact ⟨rfl, rfl, hd'⟩
          · (apply ent; (repeat constructor); done)
        · skip
          rw [if_neg (by simp [ltF, h5])] at he
          refine w_skip (aT ?_)
          refine w_seq ?_
          refine w_stages 21 ([sl (some ⟨g, 0, none⟩) c 27 1 n (dC e), q]) [(23, [])] ?_ ?_
          · (apply ent; (repeat constructor); done)
          apply s_calm 0 rfl
          · exact yM rfl
          · with_reducible (repeat (first | exact cB | apply cT | apply cK))
          · kernel_rfl
          · kernel_rfl
          · rfl
          apply s_calm 1 rfl
          · exact yM rfl
          · with_reducible (repeat (first | exact cB | apply cT | apply cK))
          · kernel_rfl
          · kernel_rfl
          · rfl
          apply s_calm 2 rfl
          · exact yM rfl
          · with_reducible (repeat (first | exact cB | apply cT | apply cK))
          · kernel_rfl
          · kernel_rfl
          · rfl
          apply s_calm 3 rfl
          · exact y_add rfl rfl (by omega) (by omega)
          · with_reducible (repeat (first | exact cB | apply cT | apply cK))
          · kernel_rfl
          · kernel_rfl
          · rfl
          apply s_calm 4 rfl
          · exact yM rfl
          · with_reducible (repeat (first | exact cB | apply cT | apply cK))
          · kernel_rfl
          · kernel_rfl
          · rfl
          apply s_calm 5 rfl
          · exact yM rfl
          · with_reducible (repeat (first | exact cB | apply cT | apply cK))
          · kernel_rfl
          · kernel_rfl
          · rfl
          apply s_calm 6 rfl
          · exact yM rfl
          · with_reducible (repeat (first | exact cB | apply cT | apply cK))
          · kernel_rfl
          · kernel_rfl
          · rfl
          apply s_calm 7 rfl
          · exact y_add rfl rfl (by omega) (by omega)
          · with_reducible (repeat (first | exact cB | apply cT | apply cK))
          · kernel_rfl
          · kernel_rfl
          · rfl
          apply s_calm 8 rfl
          · exact yM rfl
          · with_reducible (repeat (first | exact cB | apply cT | apply cK))
          · kernel_rfl
          · kernel_rfl
          · rfl
          apply s_calm 9 rfl
          · exact yM rfl
          · with_reducible (repeat (first | exact cB | apply cT | apply cK))
          · kernel_rfl
          · kernel_rfl
          · rfl
          apply s_calm 10 rfl
          · exact yM rfl
          · with_reducible (repeat (first | exact cB | apply cT | apply cK))
          · kernel_rfl
          · kernel_rfl
          · rfl
          apply s_calm 11 rfl
          · exact y_add rfl rfl (by omega) (by omega)
          · with_reducible (repeat (first | exact cB | apply cT | apply cK))
          · kernel_rfl
          · kernel_rfl
          · rfl
          apply s_calm 12 rfl
          · (first | exact y_indexAddr1 rfl rfl (hE.t rfl) (by omega) (by omega) | exact y_indexAddr rfl rfl (hE.t rfl) (by omega) (by omega))
          · with_reducible (repeat (first | exact cB | apply cT | apply cK))
          · kernel_rfl
          · kernel_rfl
          · rfl
          apply s_take 13 rfl
          · (apply y_load rfl (hE.t rfl) rfl; (repeat (first | rfl | assumption | constructor)); done)
          · with_reducible (repeat (first | exact cB | apply cT | apply cK))
          · kernel_rfl
          · rfl
          apply s_calm 14 rfl
          · exact yM rfl
          · with_reducible (repeat (first | exact cB | apply cT | apply cK))
          · kernel_rfl
          · kernel_rfl
          · rfl
          apply s_calm 15 rfl
          · exact yM rfl
          · with_reducible (repeat (first | exact cB | apply cT | apply cK))
          · kernel_rfl
          · kernel_rfl
          · rfl
          apply s_calm 16 rfl
          · exact yM rfl
          · with_reducible (repeat (first | exact cB | apply cT | apply cK))
          · kernel_rfl
          · kernel_rfl
          · rfl
          apply s_calm 17 rfl
          · exact y_add rfl rfl (by omega) (by omega)
          · with_reducible (repeat (first | exact cB | apply cT | apply cK))
          · kernel_rfl
          · kernel_rfl
          · rfl
          apply s_calm 18 rfl
          · (first | exact y_indexAddr1 rfl rfl (hE.t rfl) (by omega) (by omega) | exact y_indexAddr rfl rfl (hE.t rfl) (by omega) (by omega))
          · with_reducible (repeat (first | exact cB | apply cT | apply cK))
          · kernel_rfl
          · kernel_rfl
          · rfl
          apply s_take 19 rfl
          · (apply y_load rfl (hE.t rfl) rfl; (repeat (first | rfl | assumption | constructor)); done)
          · with_reducible (repeat (first | exact cB | apply cT | apply cK))
          · kernel_rfl
          · rfl
          apply s_calm 20 rfl
          · (first | exact y_indexAddr1 rfl rfl (hE.t rfl) (by omega) (by omega) | exact y_indexAddr rfl rfl (hE.t rfl) (by omega) (by omega))
          · with_reducible (repeat (first | exact cB | apply cT | apply cK))
          · kernel_rfl
          · kernel_rfl
          · rfl
          apply s_next rfl (by kernel_rfl) rfl
          (first | (apply ld_store rfl rfl (hE.t rfl) rfl; (focus ((repeat constructor); done)); (focus rfl); (focus (exact Nat.le_of_ble_eq_true rfl))) | (apply ld_store_sl rfl rfl (hE.t rfl) rfl; (focus ((repeat constructor); done)); (focus rfl); (focus (first | omega | (simp only [cellsL, length_setMany, List.length_cons, List.length_nil]; omega)))))
          refine ⟨by (apply ent; (repeat constructor); done), ?_⟩
          apply s_calm 22 rfl
          · (first | exact y_indexAddr1 rfl rfl (hE.t rfl) (by omega) (by omega) | exact y_indexAddr rfl rfl (hE.t rfl) (by omega) (by omega))
          · with_reducible (repeat (first | exact cB | apply cT | apply cK))
          · kernel_rfl
          · kernel_rfl
          · rfl
          apply s_last rfl (by kernel_rfl) (by kernel_rfl) rfl
          (first | (apply ld_store rfl rfl (hE.t rfl) rfl; (focus ((repeat constructor); done)); (focus rfl); (focus (exact Nat.le_of_ble_eq_true rfl))) | (apply ld_store_sl rfl rfl (hE.t rfl) rfl; (focus ((repeat constructor); done)); (focus rfl); (focus (first | omega | (simp only [cellsL, length_setMany, List.length_cons, List.length_nil]; omega)))))
          refine aT (wR ?_)
          refine lY (yM rfl) rfl ?_
          refine lY (yA rfl) rfl ?_
          refine l_nil (a_block ?_)
          simp only [cellsL]
          rw [dC_swp e (i := (first + ro)) (j := (first + (2 * ro + 1))) (by omega) (by omega)]
          case ho => omega
          case ho' => omega
          refine a_round (ι := Nat × Array Nat) (j := (2 * ro + 1, swp e (first + ro) (first + (2 * ro + 1)))) ⟨he, hd'.swp (by omega) (by omega), by show 2 * ro + 1 ≤ n; omega⟩ (by show hi - (2 * ro + 1) < hi - ro; omega) ⟨rfl, rfl, rfl, rfl, rfl, trivial⟩ (by (apply ent; (repeat constructor); done))
    · skip
      have hk := siftDown_ch (lt := ltF cf) (d := e) (first := first) (show ¬ 2 * ro + 1 ≥ hi by omega) (show 2 * ro + 1 < hi by omega) (by rw [if_neg (by simp; omega)])
      refine l_off rfl rfl rfl rfl (l_off rfl rfl rfl rfl (l_off rfl rfl rfl rfl (l_off rfl rfl rfl rfl (l_off rfl rfl rfl rfl (l_off rfl rfl rfl rfl (l_off rfl rfl rfl rfl (l_off rfl rfl rfl rfl ?_)))))))
      refine l_off rfl rfl rfl rfl (l_off rfl rfl rfl rfl (l_off rfl rfl rfl rfl (l_off rfl rfl rfl rfl (l_off rfl rfl rfl rfl (l_off rfl rfl rfl rfl (l_off rfl rfl rfl rfl (l_off rfl rfl rfl rfl ?_)))))))
      apply lY
      · (first | exact y_pick_t rfl rfl | exact y_pick_f rfl rfl)
      · rfl
      refine l_nil (aT ?_)
      refine w_cond_f rfl ?_
      refine w_skip (aT ?_)
      refine w_eq 11 (.int .i64 ((2 * ro + 1 : Nat) : Int)) rfl (int_eq (by omega)) ?_
      rw [hk] at he
      have f2 := dC_get e (i := first + ro) (by omega) ((first : Int) + (ro : Int)).toNat (by omega)
      have f3 := dC_get e (i := first + (2 * ro + 1)) (by omega) ((first : Int) + ((2 * ro + 1 : Nat) : Int)).toNat (by omega)
      have hcd := hc _ _ (hd'.2 (first + ro) (by omega)) (hd'.2 (first + (2 * ro + 1)) (by omega))
      refine w_seq (w_seq (w_draws (by kernel_rfl) ?_))
      refine lY (yM rfl) rfl ?_
      refine lY (yM rfl) rfl ?_
      refine lY (yM rfl) rfl ?_
      refine lY (yM rfl) rfl ?_
      refine lY (y_add rfl rfl (by omega) (by omega)) rfl ?_
      apply lY
      · (first | exact y_indexAddr1 rfl rfl (hE.t rfl) (by omega) (by omega) | exact y_indexAddr rfl rfl (hE.t rfl) (by omega) (by omega))
      · rfl
      apply lY
      · (apply y_load rfl (hE.t rfl) rfl; (repeat (first | rfl | assumption | constructor)); done)
      · rfl
      refine lY (yM rfl) rfl ?_
      refine lY (yM rfl) rfl ?_
      refine lY (yM rfl) rfl ?_
      refine lY (y_add rfl rfl (by omega) (by omega)) rfl ?_
      apply lY
      · (first | exact y_indexAddr1 rfl rfl (hE.t rfl) (by omega) (by omega) | exact y_indexAddr rfl rfl (hE.t rfl) (by omega) (by omega))
      · rfl
      apply lY
      · (apply y_load rfl (hE.t rfl) rfl; (repeat (first | rfl | assumption | constructor)); done)
      · rfl
      apply lL (by kernel_rfl) rfl
      apply ld_callv (hx := rfl) (ha := rfl) (hf := hf)
      · exact hcd
      · ((repeat constructor); done)
      rintro _ _ ⟨rfl, rfl⟩
      simp only [List.cons_append, List.nil_append]
      refine lY (y_lt rfl rfl) rfl ?_
      refine lY (y_not rfl) rfl ?_
      refine l_nil (aT ?_)
      refine w_cond_nd rfl (fun h5 => ?_) (fun h5 => ?_)
      · skip
        rw [if_pos (by simp [ltF, h5])] at he
        subst he
        refine w_ret (a_then_ret (a_block_ret (a_then_ret (a_block_ret ?_))))
        apply a_ret
        · rfl
        · (exact Rs.nil)
        · exact ⟨rfl, rfl, hd'⟩
        · (apply ent; (repeat constructor); done)
      · skip
        rw [if_neg (by simp [ltF, h5])] at he
        refine w_skip (aT ?_)
        refine w_seq ?_
        refine w_stages 21 ([sl (some ⟨g, 0, none⟩) c 27 1 n (dC e), q]) [(23, [])] ?_ ?_
        · (apply ent; (repeat constructor); done)
        apply s_calm 0 rfl
        · exact yM rfl
        · with_reducible (repeat (first | exact cB | apply cT | apply cK))
        · kernel_rfl
        · kernel_rfl
        · rfl
        apply s_calm 1 rfl
        · exact yM rfl
        · with_reducible (repeat (first | exact cB | apply cT | apply cK))
        · kernel_rfl
        · kernel_rfl
        · rfl
        apply s_calm 2 rfl
        · exact yM rfl
        · with_reducible (repeat (first | exact cB | apply cT | apply cK))
        · kernel_rfl
        · kernel_rfl
        · rfl
        apply s_calm 3 rfl
        · exact y_add rfl rfl (by omega) (by omega)
        · with_reducible (repeat (first | exact cB | apply cT | apply cK))
        · kernel_rfl
        · kernel_rfl
        · rfl
        apply s_calm 4 rfl
        · exact yM rfl
        · with_reducible (repeat (first | exact cB | apply cT | apply cK))
        · kernel_rfl
        · kernel_rfl
        · rfl
        apply s_calm 5 rfl
        · exact yM rfl
        · with_reducible (repeat (first | exact cB | apply cT | apply cK))
        · kernel_rfl
        · kernel_rfl
        · rfl
        apply s_calm 6 rfl
        · exact yM rfl
        · with_reducible (repeat (first | exact cB | apply cT | apply cK))
        · kernel_rfl
        · kernel_rfl
        · rfl
        apply s_calm 7 rfl
        · exact y_add rfl rfl (by omega) (by omega)
        · with_reducible (repeat (first | exact cB | apply cT | apply cK))
        · kernel_rfl
        · kernel_rfl
        · rfl
        apply s_calm 8 rfl
        · exact yM rfl
        · with_reducible (repeat (first | exact cB | apply cT | apply cK))
        · kernel_rfl
        · kernel_rfl
        · rfl
        apply s_calm 9 rfl
        · exact yM rfl
        · with_reducible (repeat (first | exact cB | apply cT | apply cK))
        · kernel_rfl
        · kernel_rfl
        · rfl
        apply s_calm 10 rfl
        · exact yM rfl
        · with_reducible (repeat (first | exact cB | apply cT | apply cK))
        · kernel_rfl
        · kernel_rfl
        · rfl
        apply s_calm 11 rfl
        · exact y_add rfl rfl (by omega) (by omega)
        · with_reducible (repeat (first | exact cB | apply cT | apply cK))
        · kernel_rfl
        · kernel_rfl
        · rfl
        apply s_calm 12 rfl
        · (first | exact y_indexAddr1 rfl rfl (hE.t rfl) (by omega) (by omega) | exact y_indexAddr rfl rfl (hE.t rfl) (by omega) (by omega))
        · with_reducible (repeat (first | exact cB | apply cT | apply cK))
        · kernel_rfl
        · kernel_rfl
        · rfl
        apply s_take 13 rfl
        · (apply y_load rfl (hE.t rfl) rfl; (repeat (first | rfl | assumption | constructor)); done)
        · with_reducible (repeat (first | exact cB | apply cT | apply cK))
        · kernel_rfl
        · rfl
        apply s_calm 14 rfl
        · exact yM rfl
        · with_reducible (repeat (first | exact cB | apply cT | apply cK))
        · kernel_rfl
        · kernel_rfl
        · rfl
        apply s_calm 15 rfl
        · exact yM rfl
        · with_reducible (repeat (first | exact cB | apply cT | apply cK))
        · kernel_rfl
        · kernel_rfl
        · rfl
        apply s_calm 16 rfl
        · exact yM rfl
        · with_reducible (repeat (first | exact cB | apply cT | apply cK))
        · kernel_rfl
        · kernel_rfl
        · rfl
        apply s_calm 17 rfl
        · exact y_add rfl rfl (by omega) (by omega)
        · with_reducible (repeat (first | exact cB | apply cT | apply cK))
        · kernel_rfl
        · kernel_rfl
        · rfl
        apply s_calm 18 rfl
        · (first | exact y_indexAddr1 rfl rfl (hE.t rfl) (by omega) (by omega) | exact y_indexAddr rfl rfl (hE.t rfl) (by omega) (by omega))
        · with_reducible (repeat (first | exact cB | apply cT | apply cK))
        · kernel_rfl
        · kernel_rfl
        · rfl
        apply s_take 19 rfl
        · (apply y_load rfl (hE.t rfl) rfl; (repeat (first | rfl | assumption | constructor)); done)
        · with_reducible (repeat (first | exact cB | apply cT | apply cK))
        · kernel_rfl
        · rfl
        apply s_calm 20 rfl
        · (first | exact y_indexAddr1 rfl rfl (hE.t rfl) (by omega) (by omega) | exact y_indexAddr rfl rfl (hE.t rfl) (by omega) (by omega))
        · with_reducible (repeat (first | exact cB | apply cT | apply cK))
        · kernel_rfl
        · kernel_rfl
        · rfl
        apply s_next rfl (by kernel_rfl) rfl
        (first | (apply ld_store rfl rfl (hE.t rfl) rfl; (focus ((repeat constructor); done)); (focus rfl); (focus (exact Nat.le_of_ble_eq_true rfl))) | (apply ld_store_sl rfl rfl (hE.t rfl) rfl; (focus ((repeat constructor); done)); (focus rfl); (focus (first | omega | (simp only [cellsL, length_setMany, List.length_cons, List.length_nil]; omega)))))
        refine ⟨by (apply ent; (repeat constructor); done), ?_⟩
        apply s_calm 22 rfl
        · (first | exact y_indexAddr1 rfl rfl (hE.t rfl) (by omega) (by omega) | exact y_indexAddr rfl rfl (hE.t rfl) (by omega) (by omega))
        · with_reducible (repeat (first | exact cB | apply cT | apply cK))
        · kernel_rfl
        · kernel_rfl
        · rfl
        apply s_last rfl (by kernel_rfl) (by kernel_rfl) rfl
        (first | (apply ld_store rfl rfl (hE.t rfl) rfl; (focus ((repeat constructor); done)); (focus rfl); (focus (exact Nat.le_of_ble_eq_true rfl))) | (apply ld_store_sl rfl rfl (hE.t rfl) rfl; (focus ((repeat constructor); done)); (focus rfl); (focus (first | omega | (simp only [cellsL, length_setMany, List.length_cons, List.length_nil]; omega)))))
        refine aT (wR ?_)
        refine lY (yM rfl) rfl ?_
        refine lY (yA rfl) rfl ?_
        refine l_nil (a_block ?_)
        simp only [cellsL]
        rw [dC_swp e (i := (first + ro)) (j := (first + (2 * ro + 1))) (by omega) (by omega)]
        case ho => omega
        case ho' => omega
        refine a_round (ι := Nat × Array Nat) (j := (2 * ro + 1, swp e (first + ro) (first + (2 * ro + 1)))) ⟨he, hd'.swp (by omega) (by omega), by show 2 * ro + 1 ≤ n; omega⟩ (by show hi - (2 * ro + 1) < hi - ro; omega) ⟨rfl, rfl, rfl, rfl, rfl, trivial⟩ (by (apply ent; (repeat constructor); done))
open Go.Sort in
theorem ct_heapSort (hE : Seat E) (hf : goFn E.P fc = true) (hc : Cmp E fc caps q ok cf) {d : Array Nat} (hd : OkD ok n d) {a b : Nat} (hab : a < b) (hb : b ≤ n) (hn : n < 1099511627776) :
    Ct E 98 [.slice (some ⟨g, 0, none⟩) n c, .int .i64 (a : Nat), .int .i64 (b : Nat), .func (.func fc) #[] ⟨caps⟩] [sl (some ⟨g, 0, none⟩) c 27 1 n (dC d), q]
      (fun v Q => v = .tuple #[] ∧ Q = [sl (some ⟨g, 0, none⟩) c 27 1 n (dC (heapSort (ltF cf) d a b)), q] ∧ OkD ok n (heapSort (ltF cf) d a b)) := by
  obtain ⟨l, hl⟩ : ∃ l, l = b - a := ⟨_, rfl⟩
  have e0 : heapSort (ltF cf) d a b = heapPop (ltF cf) a l (heapBuild (ltF cf) l a ((l - 1) / 2 + 1) d) := by unfold heapSort; rw [← hl]
  rw [e0]
  refine fn_enter (hE.fn Tryz.func98) rfl rfl rfl (fun R => ?_)
  simp only [argsL, List.cons_append, List.nil_append]
  refine w_seq (wR ?_)
  refine lY (yM rfl) rfl ?_
  refine lY (yA rfl) rfl ?_
  refine l_nil (aT (w_seq (wR ?_)))
  refine lY (yA rfl) rfl ?_
  refine l_nil (aT (w_seq (wR ?_)))
  refine lY (yM rfl) rfl ?_
  refine lY (yM rfl) rfl ?_
  refine lY (y_sub rfl rfl (by omega) (by omega)) rfl ?_
  refine lY (yA rfl) rfl ?_
  refine l_nil (aT ?_)
  refine w_eq 10 (.int .i64 ((l : Nat) : Int)) rfl (int_eq (by omega)) ?_
  refine w_seq (w_seq (wR ?_))
  refine lY (yM rfl) rfl ?_
  refine lY (y_sub rfl rfl (by omega) (by omega)) rfl ?_
  refine lY (y_quo rfl rfl (by omega) (by omega) (by omega)) rfl ?_
  refine lY (yA rfl) rfl ?_
  refine l_nil (aT (w_block ?_))
  skip
  refine w_loop (fun x : Nat × Array Nat => [(0, .slice (some ⟨g, 0, none⟩) n c), (3, .func (.func fc) #[] ⟨caps⟩), (8, .int .i64 (a : Nat)), (9, .int .i64 0), (10, .int .i64 (l : Nat)), (11, .int .i64 ((x.1 : Int) - 1))]) (fun x => [sl (some ⟨g, 0, none⟩) c 27 1 n (dC x.2), q, R]) (fun x => x.1) (fun x => heapBuild (ltF cf) l a x.1 x.2 = heapBuild (ltF cf) l a ((l - 1) / 2 + 1) d ∧ OkD ok n x.2 ∧ x.1 ≤ l) ((l - 1) / 2 + 1, d) ?_ ?_ ?_ ?_
  · exact ⟨rfl, hd, by show (l - 1) / 2 + 1 ≤ l; omega⟩
  · exact ⟨rfl, rfl, rfl, rfl, rfl, congrArg some (int_eq (by simp only; omega)), trivial⟩
  · (apply ent; (repeat constructor); done)
  rintro ⟨k, e⟩ ⟨he, hd', hk⟩
  simp only at he hd' hk ⊢
  skip
  refine w_seq (w_seq (wR ?_))
  refine lY (yM rfl) rfl ?_
  refine lY (y_ge rfl rfl) rfl ?_
  refine l_nil (aT ?_)
  refine w_cond_d rfl (fun h1 => ?_) (fun h1 => ?_)
  · skip
    obtain ⟨k, rfl⟩ : ∃ j, k = j + 1 := ⟨k - 1, by omega⟩
    refine w_skip (aT ?_)
    refine w_eq 11 (.int .i64 ((k : Nat) : Int)) rfl (int_eq (by omega)) ?_
    refine w_seq (w_block (wR ?_))
    refine lY (yM rfl) rfl ?_
    refine lY (yM rfl) rfl ?_
    refine lY (yM rfl) rfl ?_
    refine lY (yM rfl) rfl ?_
    refine lY (yM rfl) rfl ?_
    apply lL (by kernel_rfl) rfl
    apply ld_call (ct_siftDown hE hf hc hd' (by omega) (by omega) hn) rfl (hE.f (by kernel_rfl))
    · ((repeat constructor); done)
    rintro _ _ ⟨rfl, rfl, hd2⟩
    simp only [List.cons_append, List.nil_append]
    refine l_nil (a_block (aT (wR ?_)))
    refine lY (yM rfl) rfl ?_
    refine lY (y_sub rfl rfl (by omega) (by omega)) rfl ?_
    refine lY (yA rfl) rfl ?_
    refine l_nil ?_
    refine a_round (ι := Nat × Array Nat) (j := (k, siftDown (ltF cf) l a k e)) ⟨he, hd2, by show k ≤ l; omega⟩ (by show k < k + 1; omega) ⟨rfl, rfl, rfl, rfl, rfl, rfl, trivial⟩ (by (apply ent; (repeat constructor); done))
  · skip
    obtain rfl : k = 0 := by omega
    rw [heapBuild] at he
    rw [← he]
    clear he hd e0
    refine w_exit (a_then_exit (a_then_exit (a_block_exit (aT (w_seq (wR ?_))))))
    refine lY (yM rfl) rfl ?_
    refine lY (y_sub rfl rfl (by omega) (by omega)) rfl ?_
    refine lY (yA rfl) rfl ?_
    refine l_nil (aT (w_block ?_))
    skip
    refine w_loop (fun x : Nat × Array Nat => [(0, .slice (some ⟨g, 0, none⟩) n c), (3, .func (.func fc) #[] ⟨caps⟩), (8, .int .i64 (a : Nat)), (9, .int .i64 0), (12, .int .i64 ((x.1 : Int) - 1))]) (fun x => [sl (some ⟨g, 0, none⟩) c 27 1 n (dC x.2), q, R]) (fun x => x.1) (fun x => heapPop (ltF cf) a x.1 x.2 = heapPop (ltF cf) a l e ∧ OkD ok n x.2 ∧ x.1 ≤ l) (l, e) ?_ ?_ ?_ ?_
    · exact ⟨rfl, hd', Nat.le_refl _⟩
    · exact ⟨rfl, rfl, rfl, rfl, rfl, trivial⟩
    · (apply ent; (repeat constructor); done)
    rintro ⟨k, u⟩ ⟨hu, hdu, hk⟩
    simp only at hu hdu hk ⊢
    have hs := hdu.1
    skip
    refine w_seq (w_seq (wR ?_))
    refine lY (yM rfl) rfl ?_
    refine lY (y_ge rfl rfl) rfl ?_
    refine l_nil (aT ?_)
    refine w_cond_d rfl (fun h2 => ?_) (fun h2 => ?_)
    · skip
      obtain ⟨k, rfl⟩ : ∃ j, k = j + 1 := ⟨k - 1, by omega⟩
      have f0 := dC_get u (i := a + k) (by omega) ((a : Int) + (k : Int)).toNat (by omega)
      have f1 := dC_get u (i := a) (by omega) (a : Int).toNat (by omega)
      refine w_skip (aT ?_)
      refine w_eq 12 (.int .i64 ((k : Nat) : Int)) rfl (int_eq (by omega)) ?_
      refine w_seq (w_block (w_seq ?_))
      refine w_stages 17 ([sl (some ⟨g, 0, none⟩) c 27 1 n (dC u), q]) [(19, [])] ?_ ?_
      · (apply ent; (repeat constructor); done)
      apply s_calm 0 rfl
      · exact yM rfl
      · with_reducible (repeat (first | exact cB | apply cT | apply cK))
      · kernel_rfl
      · kernel_rfl
      · rfl
      apply s_calm 1 rfl
      · exact yM rfl
      · with_reducible (repeat (first | exact cB | apply cT | apply cK))
      · kernel_rfl
      · kernel_rfl
      · rfl
      apply s_calm 2 rfl
      · exact yM rfl
      · with_reducible (repeat (first | exact cB | apply cT | apply cK))
      · kernel_rfl
      · kernel_rfl
      · rfl
      apply s_calm 3 rfl
      · exact yM rfl
      · with_reducible (repeat (first | exact cB | apply cT | apply cK))
      · kernel_rfl
      · kernel_rfl
      · rfl
      apply s_calm 4 rfl
      · exact yM rfl
      · with_reducible (repeat (first | exact cB | apply cT | apply cK))
      · kernel_rfl
      · kernel_rfl
      · rfl
      apply s_calm 5 rfl
      · exact y_add rfl rfl (by omega) (by omega)
      · with_reducible (repeat (first | exact cB | apply cT | apply cK))
      · kernel_rfl
      · kernel_rfl
      · rfl
      apply s_calm 6 rfl
      · exact yM rfl
      · with_reducible (repeat (first | exact cB | apply cT | apply cK))
      · kernel_rfl
      · kernel_rfl
      · rfl
      apply s_calm 7 rfl
      · exact yM rfl
      · with_reducible (repeat (first | exact cB | apply cT | apply cK))
      · kernel_rfl
      · kernel_rfl
      · rfl
      apply s_calm 8 rfl
      · exact yM rfl
      · with_reducible (repeat (first | exact cB | apply cT | apply cK))
      · kernel_rfl
      · kernel_rfl
      · rfl
      apply s_calm 9 rfl
      · exact y_add rfl rfl (by omega) (by omega)
      · with_reducible (repeat (first | exact cB | apply cT | apply cK))
      · kernel_rfl
      · kernel_rfl
      · rfl
      apply s_calm 10 rfl
      · (first | exact y_indexAddr1 rfl rfl (hE.t rfl) (by omega) (by omega) | exact y_indexAddr rfl rfl (hE.t rfl) (by omega) (by omega))
      · with_reducible (repeat (first | exact cB | apply cT | apply cK))
      · kernel_rfl
      · kernel_rfl
      · rfl
      apply s_take 11 rfl
      · (apply y_load rfl (hE.t rfl) rfl; (repeat (first | rfl | assumption | constructor)); done)
      · with_reducible (repeat (first | exact cB | apply cT | apply cK))
      · kernel_rfl
      · rfl
      apply s_calm 12 rfl
      · exact yM rfl
      · with_reducible (repeat (first | exact cB | apply cT | apply cK))
      · kernel_rfl
      · kernel_rfl
      · rfl
      apply s_calm 13 rfl
      · exact yM rfl
      · with_reducible (repeat (first | exact cB | apply cT | apply cK))
      · kernel_rfl
      · kernel_rfl
      · rfl
      apply s_calm 14 rfl
      · (first | exact y_indexAddr1 rfl rfl (hE.t rfl) (by omega) (by omega) | exact y_indexAddr rfl rfl (hE.t rfl) (by omega) (by omega))
      · with_reducible (repeat (first | exact cB | apply cT | apply cK))
      · kernel_rfl
      · kernel_rfl
      · rfl
      apply s_take 15 rfl
      · (apply y_load rfl (hE.t rfl) rfl; (repeat (first | rfl | assumption | constructor)); done)
      · with_reducible (repeat (first | exact cB | apply cT | apply cK))
      · kernel_rfl
      · rfl
      apply s_calm 16 rfl
      · (first | exact y_indexAddr1 rfl rfl (hE.t rfl) (by omega) (by omega) | exact y_indexAddr rfl rfl (hE.t rfl) (by omega) (by omega))
      · with_reducible (repeat (first | exact cB | apply cT | apply cK))
      · kernel_rfl
      · kernel_rfl
      · rfl
      apply s_next rfl (by kernel_rfl) rfl
      (first | (apply ld_store rfl rfl (hE.t rfl) rfl; (focus ((repeat constructor); done)); (focus rfl); (focus (exact Nat.le_of_ble_eq_true rfl))) | (apply ld_store_sl rfl rfl (hE.t rfl) rfl; (focus ((repeat constructor); done)); (focus rfl); (focus (first | omega | (simp only [cellsL, length_setMany, List.length_cons, List.length_nil]; omega)))))
      refine ⟨by (apply ent; (repeat constructor); done), ?_⟩
      apply s_calm 18 rfl
      · (first | exact y_indexAddr1 rfl rfl (hE.t rfl) (by omega) (by omega) | exact y_indexAddr rfl rfl (hE.t rfl) (by omega) (by omega))
      · with_reducible (repeat (first | exact cB | apply cT | apply cK))
      · kernel_rfl
      · kernel_rfl
      · rfl
      apply s_last rfl (by kernel_rfl) (by kernel_rfl) rfl
      (first | (apply ld_store rfl rfl (hE.t rfl) rfl; (focus ((repeat constructor); done)); (focus rfl); (focus (exact Nat.le_of_ble_eq_true rfl))) | (apply ld_store_sl rfl rfl (hE.t rfl) rfl; (focus ((repeat constructor); done)); (focus rfl); (focus (first | omega | (simp only [cellsL, length_setMany, List.length_cons, List.length_nil]; omega)))))
      refine aT ?_
      simp only [cellsL]
      rw [dC_swp u (i := a) (j := (a + k)) (by omega) (by omega)]
      case ho => omega
      case ho' => omega
      refine wR ?_
      refine lY (yM rfl) rfl ?_
      refine lY (yM rfl) rfl ?_
      refine lY (yM rfl) rfl ?_
      refine lY (yM rfl) rfl ?_
      refine lY (yM rfl) rfl ?_
      apply lL (by kernel_rfl) rfl
      apply ld_call (ct_siftDown (lo := 0) hE hf hc (hdu.swp (show a < n by omega) (show a + k < n by omega)) (by omega) (by omega) hn) rfl (hE.f (by kernel_rfl))
      · ((repeat constructor); done)
      rintro _ _ ⟨rfl, rfl, hd2⟩
      simp only [List.cons_append, List.nil_append]
      refine l_nil (a_block (aT (wR ?_)))
      refine lY (yM rfl) rfl ?_
      refine lY (y_sub rfl rfl (by omega) (by omega)) rfl ?_
      refine lY (yA rfl) rfl ?_
      refine l_nil ?_
      refine a_round (ι := Nat × Array Nat) (j := (k, siftDown (ltF cf) k a 0 (swp u a (a + k)))) ⟨hu, hd2, by show k ≤ l; omega⟩ (by show k < k + 1; omega) ⟨rfl, rfl, rfl, rfl, rfl, trivial⟩ (by (apply ent; (repeat constructor); done))
    · skip
      obtain rfl : k = 0 := by omega
      rw [heapPop] at hu
      subst hu
      refine w_exit (a_then_exit (a_then_exit (a_block_exit ?_)))
      apply a_end
      · rfl
      · (exact Rs.nil)
      · exact ⟨rfl, rfl, hdu⟩
      · (apply ent; (repeat constructor); done)
end Go.Proofs.YtekhbjlplfbdkaaGreatDoor
