import Derived.Test.YtddfnkijolfhbaaGreatQ05
import Derived.Test.YtddfnkijolfhbaaGreatQ13
import Derived.Sort.AssemblyPlain
set_option linter.all false
set_option maxHeartbeats 1000000
namespace Go.Proofs.YtddfnkijolfhbaaGreat
open Go Go.RowKit Sl Eg
set_option maxRecDepth 10000
section
variable {E : Env}
def dCO (d : Array Nat) : List Value := idC d.toList
theorem dC_lenO (d : Array Nat) : (dCO d).length = d.size := by simp [dCO, idC]
theorem qAh (d : Array Nat) {i : Nat} (h : i < d.size) (o : Nat) (ho : o = i) : (dCO d)[o]? = some (.int .i64 (d[i]! : Nat)) := by
 subst ho
 simp [dCO, idC, h]
theorem qZy (d : Array Nat) {i : Nat} (h : i < d.size) (x o : Nat) (ho : o = i) : zY (dCO d) o [.int .i64 (x : Nat)] = dCO (d.setIfInBounds i x) := by
 subst ho
 rw [qHp _ _ _ (by rw [dC_lenO]; simp; omega)]
 apply List.ext_getElem?
 intro k
 simp only [dCO, idC, Array.toList_setIfInBounds, List.length_singleton]
 rw [List.map_set]
 rw [List.set_eq_take_append_cons_drop]
 simp [h]
theorem qCn (d : Array Nat) {i j : Nat} (hi : i < d.size) (hj : j < d.size) (o o' : Nat) (ho : o = i) (ho' : o' = j) : zY (zY (dCO d) o [.int .i64 (d[j]! : Nat)]) o' [.int .i64 (d[i]! : Nat)] = dCO (Go.Sort.swp d i j) := by
 rw [qZy d hi _ o ho, qZy _ (by simpa using hj) _ o' ho']
 rfl
def OkDO (ok : Nat → Prop) (n : Nat) (d : Array Nat) : Prop := d.size = n ∧ ∀ i, i < n → ok d[i]!
theorem OkDO.swp {ok : Nat → Prop} {n : Nat} {d : Array Nat} (h : OkDO ok n d) {i j : Nat} (hi : i < n) (hj : j < n) : OkDO ok n (Go.Sort.swp d i j) := by
 obtain ⟨hs, ho⟩ := h
 refine ⟨by simp [Go.Sort.swp, hs], fun k hk => ?_⟩
 have ki : k < d.size := by omega
 simp only [Go.Sort.swp]
 have e : ((d.setIfInBounds i d[j]!).setIfInBounds j d[i]!)[k]! = if j = k then d[i]! else if i = k then d[j]! else d[k]! := by
  rw [getElem!_pos _ k (by simpa using ki), Array.getElem_setIfInBounds (by simpa using ki)]
  split
  ·rfl
  rw [Array.getElem_setIfInBounds ki]
  split
  ·rfl
  rw [getElem!_pos d k ki]
 rw [e]
 split
 ·exact ho i hi
 split
 ·exact ho j hj
 exact ho k hk
variable {q : HP} {ok : Nat → Prop} {cf : Nat → Nat → Int} {g c n : Nat}
def CmpO (E : Env) (q : HP) (ok : Nat → Prop) (cf : Nat → Nat → Int) : Prop := ∀ x y, ok x → ok y → Ct E 132 [.int .i64 (x : Nat), .int .i64 (y : Nat)] [q] (fun v Q => v = .bool (decide (cf x y < 0)) ∧ Q = [q])
theorem qZm (hE : Seat E) {x : Nat} : Ct E 155 [.int .i64 (x : Nat)] [] (fun v Q => v = .bool false ∧ Q = []) := by
 refine zP (hE.fn Tryz.func155) rfl rfl rfl (fun R => ?_)
 simp only [qAe, uV, uW]
 refine qL (qJ (uA rfl (qM (qK (qL (qJ (uM rfl (uM rfl (uB (y_ne rfl rfl) ?_)))))))))
 refine uA rfl (qM (qK (kC ?_)))
 exact uZ rfl (.tmp rfl .nil) ⟨congrArg Value.bool (by simp), rfl⟩
theorem ct_less (hE : Seat E) {x y : Nat} : Ct E 132 [.int .i64 (x : Nat), .int .i64 (y : Nat)] [] (fun v Q => v = .bool (decide ((x : Int) < (y : Nat))) ∧ Q = []) := by
 refine zP (hE.fn Tryz.func132) rfl rfl rfl (fun R => ?_)
 simp only [qAe, uV, uW]
 refine qL (qJ (uA rfl (qM (qK (qL (qJ (uM rfl (uX (qZm hE) rfl ?_))))))))
 rintro _ _ ⟨rfl, rfl⟩
 simp only [uV, uW]
 refine uM rfl ?_
 refine zU rfl rfl rfl rfl (zU rfl rfl rfl rfl (zU rfl rfl rfl rfl ?_))
 refine uB (qZ rfl rfl) ?_
 refine uM rfl (kQ rfl rfl (uM rfl (kQ rfl rfl (uM rfl (kQ rfl rfl (uB (y_lt rfl rfl) ?_))))))
 refine uB (qZ rfl rfl) ?_
 refine uA rfl (qM (qK (kC ?_)))
 exact uZ rfl (.tmp rfl .nil) ⟨rfl, rfl⟩
def cfO (x y : Nat) : Int := (x : Int) - (y : Nat)
theorem cmpO (hE : Seat E) {q : HP} {ok : Nat → Prop} : CmpO E q ok cfO := fun x y _ _ R w hs => ((ct_less (x := x) (y := y) hE) (qAd [q, R]) w (hs.imp fun k h => qCt (l := []) h)).mono fun e w' ⟨v, Qs, h1, ⟨h2, h3⟩, h4⟩ => ⟨v, [q], h1, ⟨by rw [h2]; exact congrArg Value.bool (decide_eq_decide.2 (by unfold cfO; omega)), rfl⟩, by rw [h3] at h4; exact h4.imp fun k h => qEl (l := []) h⟩
def ltFO (cf : Nat → Nat → Int) (x y : Nat) : Bool := decide (cf x y < 0)
theorem qJv (hE : Seat E) (hc : CmpO E q ok cf) {d : Array Nat} (hd : OkDO ok n d) {a b sw k : Nat} (ha : a < n) (hb : b < n) (hk : k < 1000) :
  Ct E 159 [.slice (some ⟨g, 0, none⟩) n c, .int .i64 (a : Nat), .int .i64 (b : Nat), uPt sw] [cells sw [.int .i64 (k : Nat)] 3, sl (some ⟨g, 0, none⟩) c 40 1 n (dCO d), q]
   (fun v Q => v = .tuple #[.int .i64 ((Go.Sort.order2 (ltFO cf) d a b k).1 : Nat), .int .i64 ((Go.Sort.order2 (ltFO cf) d a b k).2.1 : Nat)] ∧ Q = [cells sw [.int .i64 ((Go.Sort.order2 (ltFO cf) d a b k).2.2 : Nat)] 3, sl (some ⟨g, 0, none⟩) c 40 1 n (dCO d), q]) := by
 have hs := hd.1
 have f0 := qAh d (i := b) (by omega) ((b : Int)).toNat (by omega)
 have f1 := qAh d (i := a) (by omega) ((a : Int)).toNat (by omega)
 have hcc := hc _ _ (hd.2 b hb) (hd.2 a ha)
 refine zP (hE.fn Tryz.func159) rfl rfl rfl (fun R => ?_)
 simp only [qAe, uV, uW]
 refine qL (qJ (uA rfl (uA rfl ?_)))
 refine qM (qK (qL (qL (qAw (by kernel_rfl) ?_))))
 refine uM rfl (uM rfl (uB (uAj rfl rfl) ?_))
 refine uL ?_
 refine uM rfl (uM rfl (uB (uAj rfl rfl) ?_))
 refine uL ?_
 refine uX (hcc) rfl ?_
 rintro _ _ ⟨rfl, rfl⟩
 simp only [uV, uW]
 refine qM (qK ?_)
 refine zF rfl (fun h1 => ?_) (fun h1 => ?_)
 ·have e : Go.Sort.order2 (ltFO cf) d a b k = (b, a, k + 1) := by unfold Go.Sort.order2; rw [if_pos (by simp [ltFO, h1])]
  rw [e]
  refine qL (qJ (uM rfl (uB (zB rfl) ?_)))
  refine uL ?_
  refine uB (uAa rfl rfl) ?_
  refine l_eq 22 (.int .i64 ((k + 1 : Nat) : Int)) rfl (zX (by omega)) ?_
  refine uB (zB rfl) ?_
  refine uU (uS ?_)
  refine qM (qK (qL (qJ (uM rfl (uM rfl (uA rfl (uA rfl (qM (qK (kC (qX ?_)))))))))))
  exact uZ rfl (.tmp rfl (.tmp rfl .nil)) ⟨rfl, rfl⟩
 have e : Go.Sort.order2 (ltFO cf) d a b k = (a, b, k) := by unfold Go.Sort.order2; rw [if_neg (by simp [ltFO, h1])]
 rw [e]
 refine zC (qK (qL (qJ (uM rfl (uM rfl (uA rfl (uA rfl (qM (qK (kC ?_))))))))))
 exact uZ rfl (.tmp rfl (.tmp rfl .nil)) ⟨rfl, rfl⟩
open Go.Sort in
theorem qFo {lt : Nat → Nat → Bool} {d : Array Nat} {a b k m : Nat} (ha : a < m) (hb : b < m) : (order2 lt d a b k).1 < m ∧ (order2 lt d a b k).2.1 < m ∧ (order2 lt d a b k).2.2 ≤ k + 1 := by
 unfold order2
 split
 ·exact ⟨hb, ha, Nat.le_refl _⟩
 exact ⟨ha, hb, Nat.le_succ _⟩
open Go.Sort in
theorem qKb {lt : Nat → Nat → Bool} {d : Array Nat} {a b e k m : Nat} (ha : a < m) (hb : b < m) (he : e < m) : (median lt d a b e k).1 < m ∧ (median lt d a b e k).2 ≤ k + 3 := by
 have h1 := qFo (lt := lt) (d := d) (k := k) ha hb
 have h2 := qFo (lt := lt) (d := d) (k := (order2 lt d a b k).2.2) h1.2.1 he
 have h3 := qFo (lt := lt) (d := d) (k := (order2 lt d (order2 lt d a b k).2.1 e (order2 lt d a b k).2.2).2.2) h1.1 h2.1
 unfold median
 exact ⟨h3.2.1, by simp only; omega⟩
theorem qJt (hE : Seat E) (hc : CmpO E q ok cf) {d : Array Nat} (hd : OkDO ok n d) {a b e sw k : Nat} (ha : a < n) (hb : b < n) (he : e < n) (hk : k < 900) :
  Ct E 154 [.slice (some ⟨g, 0, none⟩) n c, .int .i64 (a : Nat), .int .i64 (b : Nat), .int .i64 (e : Nat), uPt sw] [cells sw [.int .i64 (k : Nat)] 3, sl (some ⟨g, 0, none⟩) c 40 1 n (dCO d), q]
   (fun v Q => v = .int .i64 ((Go.Sort.median (ltFO cf) d a b e k).1 : Nat) ∧ Q = [cells sw [.int .i64 ((Go.Sort.median (ltFO cf) d a b e k).2 : Nat)] 3, sl (some ⟨g, 0, none⟩) c 40 1 n (dCO d), q]) := by
 have h1 := qFo (lt := ltFO cf) (d := d) (k := k) ha hb
 have h2 := qFo (lt := ltFO cf) (d := d) (k := (Go.Sort.order2 (ltFO cf) d a b k).2.2) h1.2.1 he
 unfold Go.Sort.median
 simp only
 refine zP (hE.fn Tryz.func154) rfl rfl rfl (fun R => ?_)
 simp only [qAe, uV, uW]
 refine qL (qJ (uA rfl (qM (qK (qL (qJ (uM rfl (uM rfl (uM rfl (uM rfl ?_))))))))))
 refine uX (qJv (k := k) hE hc hd ha hb (by omega)) rfl ?_
 rintro _ _ ⟨rfl, rfl⟩
 simp only [uV, uW]
 refine uM rfl (uB (qV rfl rfl) (uB (qV rfl rfl) (uA rfl (uA rfl (qM (qK (qL (qJ (uM rfl (uM rfl (uM rfl (uM rfl ?_))))))))))))
 refine uX (qJv (k := (Go.Sort.order2 (ltFO cf) d a b k).2.2) hE hc hd h1.2.1 he (by omega)) rfl ?_
 rintro _ _ ⟨rfl, rfl⟩
 simp only [uV, uW]
 refine uM rfl (uB (qV rfl rfl) (uB (qV rfl rfl) (uA rfl (uA rfl (qM (qK (qL (qJ (uM rfl (uM rfl (uM rfl (uM rfl ?_))))))))))))
 refine uX (qJv (k := (Go.Sort.order2 (ltFO cf) d (Go.Sort.order2 (ltFO cf) d a b k).2.1 e (Go.Sort.order2 (ltFO cf) d a b k).2.2).2.2) hE hc hd h1.1 h2.1 (by omega)) rfl ?_
 rintro _ _ ⟨rfl, rfl⟩
 simp only [uV, uW]
 refine uM rfl (uB (qV rfl rfl) (uB (qV rfl rfl) (uA rfl (uA rfl (qM (qK (qL (qJ (uM rfl (uA rfl ?_))))))))))
 refine qM (qK (kC ?_))
 exact uZ rfl (.tmp rfl .nil) ⟨rfl, rfl⟩
theorem qDk (hE : Seat E) (hc : CmpO E q ok cf) {d : Array Nat} (hd : OkDO ok n d) {a sw k : Nat} (ha : a + 1 < n) (h1 : 1 ≤ a) (hn : n < 1099511627776) (hk : k < 900) :
  Ct E 153 [.slice (some ⟨g, 0, none⟩) n c, .int .i64 (a : Nat), uPt sw] [cells sw [.int .i64 (k : Nat)] 3, sl (some ⟨g, 0, none⟩) c 40 1 n (dCO d), q]
   (fun v Q => v = .int .i64 ((Go.Sort.medianAdjacent (ltFO cf) d a k).1 : Nat) ∧ Q = [cells sw [.int .i64 ((Go.Sort.medianAdjacent (ltFO cf) d a k).2 : Nat)] 3, sl (some ⟨g, 0, none⟩) c 40 1 n (dCO d), q]) := by
 unfold Go.Sort.medianAdjacent
 refine zP (hE.fn Tryz.func153) rfl rfl rfl (fun R => ?_)
 simp only [qAe, uV, uW]
 refine qL (qJ (uA rfl (qM (qK (qL (qJ (uM rfl (uM rfl (uB (uAs rfl rfl) ?_)))))))))
 refine uM rfl (uM rfl (uB (uAa rfl rfl) ?_))
 refine uM rfl ?_
 refine l_eq 9 (.int .i64 ((a - 1 : Nat) : Int)) rfl (zX (by omega)) ?_
 refine l_eq 12 (.int .i64 ((a + 1 : Nat) : Int)) rfl (zX (by omega)) ?_
 refine uX (qJt (a := a - 1) (b := a) (e := a + 1) (k := k) hE hc hd (by omega) (by omega) ha hk) rfl ?_
 rintro _ _ ⟨rfl, rfl⟩
 simp only [uV, uW]
 refine uA rfl (qM (qK (kC ?_)))
 exact uZ rfl (.tmp rfl .nil) ⟨rfl, rfl⟩
def qOn : Go.Sort.Hint → Nat
 | .unknown => 0
 | .increasing => 1
 | .decreasing => 2
theorem qLx (hE : Seat E) (hc : CmpO E q ok cf) {d : Array Nat} (hd : OkDO ok n d) {a b : Nat} (hab : a + 12 < b) (hb : b ≤ n) (hn : n < 1099511627776) :
  Ct E 129 [.slice (some ⟨g, 0, none⟩) n c, .int .i64 (a : Nat), .int .i64 (b : Nat)] [sl (some ⟨g, 0, none⟩) c 40 1 n (dCO d), q]
   (fun v Q => v = .tuple #[.int .i64 ((Go.Sort.choosePivot (ltFO cf) d a b).1 : Nat), .int .i64 (qOn (Go.Sort.choosePivot (ltFO cf) d a b).2 : Nat)] ∧ Q = [sl (some ⟨g, 0, none⟩) c 40 1 n (dCO d), q]) := by
 refine zP (hE.fn Tryz.func129) rfl rfl rfl (fun R => ?_)
 simp only [qAe, uV, uW]
 refine qL (qJ (uA rfl (uA rfl (qM (qK (qL (qJ (uM rfl (uM rfl (uB (uAs rfl rfl) ?_))))))))))
 refine uA rfl (qM (qK ?_))
 obtain ⟨l, hl⟩ : ∃ l, l = b - a := ⟨_, rfl⟩
 obtain ⟨i, hi⟩ : ∃ i, i = a + l / 4 * 1 := ⟨_, rfl⟩
 obtain ⟨j, hj⟩ : ∃ j, j = a + l / 4 * 2 := ⟨_, rfl⟩
 obtain ⟨m, hm⟩ : ∃ m, m = a + l / 4 * 3 := ⟨_, rfl⟩
 refine w_eq 8 (.int .i64 ((l : Nat) : Int)) rfl (zX (by omega)) ?_
 refine qL (qJ (uU (kG (hE.t rfl) (fun b9 => ?_))))
 refine qM (qK (qL (qJ (uM rfl (uM rfl (uB (qHe rfl rfl (by omega) (by omega) (by omega)) ?_))))))
 refine uB (qJn rfl rfl (by omega) (by omega)) ?_
 refine uB (uAa rfl rfl) ?_
 refine uA rfl (qM (qK (qL (qJ (uM rfl (uM rfl (uB (qHe rfl rfl (by omega) (by omega) (by omega)) ?_)))))))
 refine uB (qJn rfl rfl (by omega) (by omega)) ?_
 refine uB (uAa rfl rfl) ?_
 refine uA rfl (qM (qK (qL (qJ (uM rfl (uM rfl (uB (qHe rfl rfl (by omega) (by omega) (by omega)) ?_)))))))
 refine uB (qJn rfl rfl (by omega) (by omega)) ?_
 refine uB (uAa rfl rfl) ?_
 refine uA rfl (qM (qK ?_))
 refine w_eq 10 (.int .i64 ((i : Nat) : Int)) rfl (zX (by omega)) ?_
 refine w_eq 11 (.int .i64 ((j : Nat) : Int)) rfl (zX (by omega)) ?_
 refine w_eq 12 (.int .i64 ((m : Nat) : Int)) rfl (zX (by omega)) ?_
 refine qL (qL (qJ (uM rfl (uB (y_ge rfl rfl) ?_))))
 refine qM (qK ?_)
 refine zF rfl (fun h8 => ?_) (fun h8 => ?_)
 ·have hh : ∀ r : Nat × Nat, (if l ≥ 50 then Go.Sort.median (ltFO cf) d (Go.Sort.medianAdjacent (ltFO cf) d i 0).1 (Go.Sort.medianAdjacent (ltFO cf) d j (Go.Sort.medianAdjacent (ltFO cf) d i 0).2).1 (Go.Sort.medianAdjacent (ltFO cf) d m (Go.Sort.medianAdjacent (ltFO cf) d j (Go.Sort.medianAdjacent (ltFO cf) d i 0).2).2).1 (Go.Sort.medianAdjacent (ltFO cf) d m (Go.Sort.medianAdjacent (ltFO cf) d j (Go.Sort.medianAdjacent (ltFO cf) d i 0).2).2).2 else Go.Sort.median (ltFO cf) d i j m 0) = r → Go.Sort.choosePivot (ltFO cf) d a b = (r.1, if r.2 = 0 then .increasing else if r.2 = 12 then .decreasing else .unknown) := by
   intro r hr
   subst hr
   unfold Go.Sort.choosePivot
   simp only [← hl, ← hi, ← hj, ← hm, if_pos (show l ≥ 8 by omega)]
  refine qL (qL (qJ (uM rfl (uB (y_ge rfl rfl) ?_))))
  refine qM (qK ?_)
  refine zF rfl (fun h50 => ?_) (fun h50 => ?_)
  ·rw [if_pos (show l ≥ 50 by omega)] at hh
   refine qL (qJ (uM rfl (uM rfl (uX (qDk (a := i) (k := 0) hE hc hd (by omega) (by omega) hn (by omega)) rfl ?_))))
   rintro _ _ ⟨rfl, rfl⟩
   simp only [uV, uW]
   refine uA rfl (qM (qK (qL (qJ (uM rfl (uM rfl ?_))))))
   have c1 := (qKb (lt := ltFO cf) (d := d) (a := i - 1) (b := i) (e := i + 1) (k := 0) (m := n) (by omega) (by omega) (by omega))
   have c1' : (Go.Sort.medianAdjacent (ltFO cf) d i 0).1 < n ∧ (Go.Sort.medianAdjacent (ltFO cf) d i 0).2 ≤ 0 + 3 := c1
   refine uX (qDk (a := j) (k := (Go.Sort.medianAdjacent (ltFO cf) d i 0).2) hE hc hd (by omega) (by omega) hn (by omega)) rfl ?_
   rintro _ _ ⟨rfl, rfl⟩
   simp only [uV, uW]
   refine uA rfl (qM (qK (qJ (uM rfl (uM rfl ?_)))))
   have c2 := (qKb (lt := ltFO cf) (d := d) (a := j - 1) (b := j) (e := j + 1) (k := (Go.Sort.medianAdjacent (ltFO cf) d i 0).2) (m := n) (by omega) (by omega) (by omega))
   have c2' : (Go.Sort.medianAdjacent (ltFO cf) d j (Go.Sort.medianAdjacent (ltFO cf) d i 0).2).1 < n ∧ (Go.Sort.medianAdjacent (ltFO cf) d j (Go.Sort.medianAdjacent (ltFO cf) d i 0).2).2 ≤ (Go.Sort.medianAdjacent (ltFO cf) d i 0).2 + 3 := c2
   refine uX (qDk (a := m) (k := (Go.Sort.medianAdjacent (ltFO cf) d j (Go.Sort.medianAdjacent (ltFO cf) d i 0).2).2) hE hc hd (by omega) (by omega) hn (by omega)) rfl ?_
   rintro _ _ ⟨rfl, rfl⟩
   simp only [uV, uW]
   refine uA rfl (qM (qK (qJ (uM rfl (uM rfl (uM rfl (uM rfl ?_)))))))
   have c3 := (qKb (lt := ltFO cf) (d := d) (a := m - 1) (b := m) (e := m + 1) (k := (Go.Sort.medianAdjacent (ltFO cf) d j (Go.Sort.medianAdjacent (ltFO cf) d i 0).2).2) (m := n) (by omega) (by omega) (by omega))
   have c3' : (Go.Sort.medianAdjacent (ltFO cf) d m (Go.Sort.medianAdjacent (ltFO cf) d j (Go.Sort.medianAdjacent (ltFO cf) d i 0).2).2).1 < n ∧ (Go.Sort.medianAdjacent (ltFO cf) d m (Go.Sort.medianAdjacent (ltFO cf) d j (Go.Sort.medianAdjacent (ltFO cf) d i 0).2).2).2 ≤ (Go.Sort.medianAdjacent (ltFO cf) d j (Go.Sort.medianAdjacent (ltFO cf) d i 0).2).2 + 3 := c3
   clear c1 c2 c3
   generalize Go.Sort.medianAdjacent (ltFO cf) d m (Go.Sort.medianAdjacent (ltFO cf) d j (Go.Sort.medianAdjacent (ltFO cf) d i 0).2).2 = r3 at *
   generalize Go.Sort.medianAdjacent (ltFO cf) d j (Go.Sort.medianAdjacent (ltFO cf) d i 0).2 = r2 at *
   generalize Go.Sort.medianAdjacent (ltFO cf) d i 0 = r1 at *
   refine uX (qJt (a := r1.1) (b := r2.1) (e := r3.1) (k := r3.2) hE hc hd c1'.1 c2'.1 c3'.1 (by omega)) rfl ?_
   rintro _ _ ⟨rfl, rfl⟩
   simp only [uV, uW]
   generalize Go.Sort.median (ltFO cf) d r1.1 r2.1 r3.1 r3.2 = r at *
   rw [hh r rfl]
   refine uA rfl (qM (qK (qL (qJ (uL ?_)))))
   refine qM (qK (zL (qL (qJ (uB (y_eq rfl rfl) ?_)))))
   refine uA rfl (qM (qK ?_))
   refine zF rfl (fun g0 => ?_) (fun g0 => ?_)
   ·rw [if_pos (by omega)]
    refine qL (qJ (uM rfl (uA rfl (uA rfl (qM (qK (kC (zO ?_))))))))
    exact uZ rfl (.tmp rfl (.tmp rfl .nil)) ⟨rfl, rfl⟩
   rw [if_neg (by omega)]
   refine qL (qJ (uB (y_eq rfl rfl) ?_))
   refine uA rfl (qM (qK ?_))
   refine zF rfl (fun g1 => ?_) (fun g1 => ?_)
   ·rw [if_pos (by omega)]
    refine qL (qJ (uM rfl (uA rfl (uA rfl (qM (qK (kC (zO ?_))))))))
    exact uZ rfl (.tmp rfl (.tmp rfl .nil)) ⟨rfl, rfl⟩
   rw [if_neg (by omega)]
   refine qL (qJ (uM rfl (uA rfl (uA rfl (qM (qK (kC (zO ?_))))))))
   exact uZ rfl (.tmp rfl (.tmp rfl .nil)) ⟨rfl, rfl⟩
  rw [if_neg (show ¬ l ≥ 50 by omega)] at hh
  refine zC (qK (qJ (uM rfl (uM rfl (uM rfl (uM rfl ?_))))))
  refine uX (qJt (a := i) (b := j) (e := m) (k := 0) hE hc hd (by omega) (by omega) (by omega) (by omega)) rfl ?_
  rintro _ _ ⟨rfl, rfl⟩
  simp only [uV, uW]
  generalize Go.Sort.median (ltFO cf) d i j m 0 = r at *
  rw [hh r rfl]
  refine uA rfl (qM (qK (qL (qJ (uL ?_)))))
  refine qM (qK (zL (qL (qJ (uB (y_eq rfl rfl) ?_)))))
  refine uA rfl (qM (qK ?_))
  refine zF rfl (fun g0 => ?_) (fun g0 => ?_)
  ·rw [if_pos (by omega)]
   refine qL (qJ (uM rfl (uA rfl (uA rfl (qM (qK (kC (zO ?_))))))))
   exact uZ rfl (.tmp rfl (.tmp rfl .nil)) ⟨rfl, rfl⟩
  rw [if_neg (by omega)]
  refine qL (qJ (uB (y_eq rfl rfl) ?_))
  refine uA rfl (qM (qK ?_))
  refine zF rfl (fun g1 => ?_) (fun g1 => ?_)
  ·rw [if_pos (by omega)]
   refine qL (qJ (uM rfl (uA rfl (uA rfl (qM (qK (kC (zO ?_))))))))
   exact uZ rfl (.tmp rfl (.tmp rfl .nil)) ⟨rfl, rfl⟩
  rw [if_neg (by omega)]
  refine qL (qJ (uM rfl (uA rfl (uA rfl (qM (qK (kC (zO ?_))))))))
  exact uZ rfl (.tmp rfl (.tmp rfl .nil)) ⟨rfl, rfl⟩
 exfalso; omega
end
section
variable {E : Env}
variable {q : HP} {ok : Nat → Prop} {cf : Nat → Nat → Int} {g c n : Nat}
open Go.Sort in
theorem qLc (hE : Seat E) {d : Array Nat} (hd : OkDO ok n d) {a b : Nat} (hab : a < b) (hb : b ≤ n) (hn : n < 1099511627776) :
  Ct E 130 [.slice (some ⟨g, 0, none⟩) n c, .int .i64 (a : Nat), .int .i64 (b : Nat)] [sl (some ⟨g, 0, none⟩) c 40 1 n (dCO d), q]
   (fun v Q => v = .tuple #[] ∧ Q = [sl (some ⟨g, 0, none⟩) c 40 1 n (dCO (reverseRange d a b)), q] ∧ OkDO ok n (reverseRange d a b)) := by
 refine zP (hE.fn Tryz.func130) rfl rfl rfl (fun R => ?_)
 simp only [qAe, uV, uW]
 refine qL (qJ (uM rfl (uA rfl (qM (qK (qL (qJ (uM rfl (uB (uAs rfl rfl) ?_)))))))))
 refine uA rfl (qM (qK (zL ?_)))
 refine qAj (fun x : Nat × Nat × Array Nat => [(0, .slice (some ⟨g, 0, none⟩) n c), (6, .int .i64 (x.1 : Nat)), (7, .int .i64 (x.2.1 : Nat))]) (fun x => [sl (some ⟨g, 0, none⟩) c 40 1 n (dCO x.2.2), q, R]) (fun x => x.2.1 - x.1) (fun x => reverseLoop x.1 x.2.1 x.2.2 = reverseRange d a b ∧ OkDO ok n x.2.2 ∧ x.2.1 < n ∧ x.1 ≤ n) (a, b - 1, d) ?_ ?_ ?_ ?_
 ·exact ⟨rfl, hd, by show b - 1 < n; omega, by show a ≤ n; omega⟩
 ·exact ⟨rfl, rfl, congrArg some (zX (by simp only; omega)), trivial⟩
 ·exact uI
 rintro ⟨i, j, e⟩ ⟨he, hd', hj, hi⟩
 simp only at he hd' hj hi ⊢
 have hs := hd'.1
 refine qL (qL (qJ (uM rfl (uM rfl (uB (y_lt rfl rfl) ?_)))))
 refine qM (qK ?_)
 refine zF rfl (fun h1 => ?_) (fun h1 => ?_)
 ·have f0 := qAh e (i := i) (by omega) ((i : Int)).toNat (by omega)
  have f1 := qAh e (i := j) (by omega) ((j : Int)).toNat (by omega)
  refine zC (qK (zL (qL ?_)))
  refine qAo 13 ([sl (some ⟨g, 0, none⟩) c 40 1 n (dCO e), q]) [(15, [])] ?_ ?_
  ·exact uI
  refine uP 0 rfl (qC rfl) ?_
  refine uP 1 rfl (qC rfl) ?_
  refine uP 2 rfl (qC rfl) ?_
  refine uP 3 rfl (qC rfl) ?_
  refine uP 4 rfl (qC rfl) ?_
  refine uP 5 rfl (qC rfl) ?_
  refine uP 6 rfl (uAj rfl rfl) ?_
  refine uQ 7 rfl (uY) ?_
  refine uP 8 rfl (qC rfl) ?_
  refine uP 9 rfl (qC rfl) ?_
  refine uP 10 rfl (uAj rfl rfl) ?_
  refine uQ 11 rfl (uY) ?_
  refine uP 12 rfl (uAj rfl rfl) ?_
  apply qBo rfl (by kernel_rfl) rfl
  refine uJ ?_
  refine uE ?_
  refine uP 14 rfl (uAj rfl rfl) ?_
  apply qBn rfl (by kernel_rfl) (by kernel_rfl) rfl
  refine uJ ?_
  refine qK (qL (qJ (uM rfl (uB (uAa rfl rfl) ?_))))
  refine uA rfl (qM (qK (qJ (uM rfl (uB (uAs rfl rfl) ?_)))))
  refine uA rfl (qM (zJ ?_))
  simp only [zQ]
  rw [qCn e (i := i) (j := j) (by omega) (by omega)]
  case ho => omega
  case ho' => omega
  refine zT (ι := Nat × Nat × Array Nat) (j := (i + 1, j - 1, swp e i j)) ⟨?_, hd'.swp (by omega) hj, by show j - 1 < n; omega, by show i + 1 ≤ n; omega⟩ (by show j - 1 - (i + 1) < j - i; omega) ⟨rfl, rfl, ?_, trivial⟩ uI
  ·rw [← he]
   conv => rhs; rw [reverseLoop, if_pos (show i < j by omega)]
  exact congrArg some (zX (by simp only; omega))
 rw [reverseLoop, if_neg (show ¬ i < j by omega)] at he
 subst he
 refine kJ (qQ (qQ (zI ?_)))
 exact uZe rfl .nil ⟨rfl, rfl, hd'⟩
open Go.Sort in
theorem qJr (hE : Seat E) (hc : CmpO E q ok cf) {d : Array Nat} (hd : OkDO ok n d) {a b : Nat} (hab : a ≤ b) (hb : b ≤ n) (hn : n < 1099511627776) :
  Ct E 126 [.slice (some ⟨g, 0, none⟩) n c, .int .i64 (a : Nat), .int .i64 (b : Nat)] [sl (some ⟨g, 0, none⟩) c 40 1 n (dCO d), q]
   (fun v Q => v = .tuple #[] ∧ Q = [sl (some ⟨g, 0, none⟩) c 40 1 n (dCO (insertionSort (ltFO cf) d a b)), q] ∧ OkDO ok n (insertionSort (ltFO cf) d a b)) := by
 refine zP (hE.fn Tryz.func126) rfl rfl rfl (fun R => ?_)
 simp only [qAe, uV, uW]
 refine qL (qJ (uM rfl (uB (uAa rfl rfl) ?_)))
 refine uA rfl (qM (qK (zL ?_)))
 refine qAj (fun x : Nat × Array Nat => [(0, .slice (some ⟨g, 0, none⟩) n c), (1, .int .i64 (a : Nat)), (2, .int .i64 (b : Nat)), (6, .int .i64 (x.1 : Nat))]) (fun x => [sl (some ⟨g, 0, none⟩) c 40 1 n (dCO x.2), q, R]) (fun x => b - x.1) (fun x => insOuter (ltFO cf) a b x.1 x.2 = insertionSort (ltFO cf) d a b ∧ OkDO ok n x.2 ∧ a + 1 ≤ x.1 ∧ x.1 ≤ n + 1) (a + 1, d) ?_ ?_ ?_ ?_
 ·exact ⟨rfl, hd, Nat.le_refl _, by show a + 1 ≤ n + 1; omega⟩
 ·exact ⟨rfl, rfl, rfl, congrArg some (zX (by simp only; omega)), trivial⟩
 ·exact uI
 rintro ⟨i, e⟩ ⟨he, hd', hi, hi2⟩
 simp only at he hd' hi hi2 ⊢
 refine qL (qL (qJ (uM rfl (uM rfl (uB (y_lt rfl rfl) ?_)))))
 refine qM (qK ?_)
 refine zF rfl (fun h1 => ?_) (fun h1 => ?_)
 ·rw [insOuter, if_pos (show i < b by omega)] at he
  refine zC (qK (qL (zL (qL (qJ (uM rfl (uA rfl (qM (qK (zL ?_))))))))))
  refine qAj (fun x : Nat × Array Nat => [(0, .slice (some ⟨g, 0, none⟩) n c), (1, .int .i64 (a : Nat)), (2, .int .i64 (b : Nat)), (6, .int .i64 (i : Nat)), (7, .int .i64 (x.1 : Nat))]) (fun x => [sl (some ⟨g, 0, none⟩) c 40 1 n (dCO x.2), q, R]) (fun x => x.1) (fun x => insInner (ltFO cf) a x.1 x.2 = insInner (ltFO cf) a i e ∧ OkDO ok n x.2 ∧ x.1 ≤ i) (i, e) ?_ ?_ ?_ ?_
  ·exact ⟨rfl, hd', Nat.le_refl _⟩
  ·exact ⟨rfl, rfl, rfl, rfl, rfl, trivial⟩
  ·exact uI
  rintro ⟨j, u⟩ ⟨hu, hdu, hj⟩
  simp only at hu hdu hj ⊢
  have hs := hdu.1
  refine qL (qL (qAw (by kernel_rfl) ?_))
  refine uM rfl (uM rfl (uB (y_gt rfl rfl) ?_))
  refine uM rfl ?_
  refine qAl 19 rfl (fun h2 => ?_) (fun h2 => ?_)
  ·obtain ⟨j, rfl⟩ : ∃ k, j = k + 1 := ⟨j - 1, by omega⟩
   have f0 := qAh u (i := j + 1) (by omega) (((j + 1 : Nat) : Int)).toNat (by omega)
   have f1 := qAh u (i := j) (by omega) (((j + 1 : Nat) : Int) - 1).toNat (by omega)
   have hcc := hc _ _ (hdu.2 (j + 1) (by omega)) (hdu.2 j (by omega))
   refine kQ rfl rfl (uM rfl (kQ rfl rfl (uM rfl (kQ rfl rfl (uB (uAj rfl rfl) ?_)))))
   refine kQ rfl rfl (uL ?_)
   refine kQ rfl rfl (uM rfl (kQ rfl rfl (uM rfl (kQ rfl rfl (uB (uAs rfl rfl) ?_)))))
   refine kQ rfl rfl (uB (uAj rfl rfl) ?_)
   refine kQ rfl rfl (uL ?_)
   refine kQ rfl rfl (uX (hcc) rfl ?_)
   rintro _ _ ⟨rfl, rfl⟩
   simp only [uV, uW]
   refine uB (qY rfl rfl) ?_
   refine qM (qK ?_)
   refine zF rfl (fun h3 => ?_) (fun h3 => ?_)
   ·refine zC (qK ?_)
    refine qL (zL ?_)
    refine qAo 15 ([sl (some ⟨g, 0, none⟩) c 40 1 n (dCO u), q]) [(17, [])] ?_ ?_
    ·exact uI
    refine uP 0 rfl (qC rfl) ?_
    refine uP 1 rfl (qC rfl) ?_
    refine uP 2 rfl (qC rfl) ?_
    refine uP 3 rfl (qC rfl) ?_
    refine uP 4 rfl (uAs rfl rfl) ?_
    refine uP 5 rfl (qC rfl) ?_
    refine uP 6 rfl (qC rfl) ?_
    refine uP 7 rfl (uAs rfl rfl) ?_
    refine uP 8 rfl (uAj rfl rfl) ?_
    refine uQ 9 rfl (uY) ?_
    refine uP 10 rfl (qC rfl) ?_
    refine uP 11 rfl (qC rfl) ?_
    refine uP 12 rfl (uAj rfl rfl) ?_
    refine uQ 13 rfl (uY) ?_
    refine uP 14 rfl (uAj rfl rfl) ?_
    apply qBo rfl (by kernel_rfl) rfl
    refine uJ ?_
    refine uE ?_
    refine uP 16 rfl (uAj rfl rfl) ?_
    apply qBn rfl (by kernel_rfl) (by kernel_rfl) rfl
    refine uJ ?_
    refine zJ (qK (qJ (uM rfl (uB (uAs rfl rfl) ?_))))
    refine uA rfl (qM ?_)
    simp only [zQ]
    rw [qCn u (i := (j + 1)) (j := j) (by omega) (by omega)]
    case ho => omega
    case ho' => omega
    refine zT (ι := Nat × Array Nat) (j := (j, swp u (j + 1) j)) ⟨?_, hdu.swp (by omega) (by omega), by show j ≤ i; omega⟩ (by show j < j + 1; omega) ⟨rfl, rfl, rfl, rfl, congrArg some (zX (by simp only; omega)), trivial⟩ uI
    rw [← hu]
    conv => rhs; rw [insInner, if_pos (by simp [ltFO, h3]; omega)]
   rw [insInner, if_neg (by simp [ltFO, h3])] at hu
   rw [← hu] at he
   refine kJ (qQ (qQ (zI (zJ (qK (qJ (uM rfl (uB (uAa rfl rfl) ?_))))))))
   refine uA rfl (qM ?_)
   refine zT (ι := Nat × Array Nat) (j := (i + 1, u)) ⟨he, hdu, by show a + 1 ≤ i + 1; omega, by show i + 1 ≤ n + 1; omega⟩ (by show b - (i + 1) < b - i; omega) ⟨rfl, rfl, rfl, congrArg some (zX (by simp only; omega)), trivial⟩ uI
  have hu' : u = insInner (ltFO cf) a i e := by
   rw [← hu]
   cases j with
   | zero => rfl
   | succ j => rw [insInner, if_neg (by simp; omega)]
  rw [← hu'] at he
  refine zU rfl rfl rfl rfl (zU rfl rfl rfl rfl (zU rfl rfl rfl rfl (zU rfl rfl rfl rfl (zU rfl rfl rfl rfl (zU rfl rfl rfl rfl (zU rfl rfl rfl rfl (zU rfl rfl rfl rfl ?_)))))))
  refine zU rfl rfl rfl rfl (zU rfl rfl rfl rfl ?_)
  refine uB (qZ rfl rfl) ?_
  refine qM (qK (zD rfl (kJ (qQ (qQ (zI (zJ (qK (qJ (uM rfl (uB (uAa rfl rfl) ?_)))))))))))
  refine uA rfl (qM ?_)
  refine zT (ι := Nat × Array Nat) (j := (i + 1, u)) ⟨he, hdu, by show a + 1 ≤ i + 1; omega, by show i + 1 ≤ n + 1; omega⟩ (by show b - (i + 1) < b - i; omega) ⟨rfl, rfl, rfl, congrArg some (zX (by simp only; omega)), trivial⟩ uI
 rw [insOuter, if_neg (show ¬ i < b by omega)] at he
 subst he
 refine kJ (qQ (qQ (zI ?_)))
 exact uZe rfl .nil ⟨rfl, rfl, hd'⟩
open Go.Sort in
theorem qGv {lt : Nat → Nat → Bool} {hi first root ch : Nat} {d : Array Nat} (h : ¬ 2 * root + 1 ≥ hi) (hc : ch < hi) (e : if 2 * root + 1 + 1 < hi && lt d[first + (2 * root + 1)]! d[first + (2 * root + 1) + 1]! then ch = 2 * root + 2 else ch = 2 * root + 1) :
  siftDown lt hi first root d = if !lt d[first + root]! d[first + ch]! then d else siftDown lt hi first ch (swp d (first + root) (first + ch)) := by
 rw [siftDown, dif_neg h]
 split at e
 ·rename_i h1
  subst e
  rw [if_pos h1]
  split
  ·rfl
  first | rw [dif_pos hc] | rfl
 rename_i h1
 subst e
 rw [if_neg h1]
open Go.Sort in
theorem qKq (hE : Seat E) (hc : CmpO E q ok cf) {d : Array Nat} (hd : OkDO ok n d) {lo hi first : Nat} (hlo : lo ≤ n) (hb : first + hi ≤ n) (hn : n < 1099511627776) :
  Ct E 152 [.slice (some ⟨g, 0, none⟩) n c, .int .i64 (lo : Nat), .int .i64 (hi : Nat), .int .i64 (first : Nat)] [sl (some ⟨g, 0, none⟩) c 40 1 n (dCO d), q]
   (fun v Q => v = .tuple #[] ∧ Q = [sl (some ⟨g, 0, none⟩) c 40 1 n (dCO (siftDown (ltFO cf) hi first lo d)), q] ∧ OkDO ok n (siftDown (ltFO cf) hi first lo d)) := by
 refine zP (hE.fn Tryz.func152) rfl rfl rfl (fun R => ?_)
 simp only [qAe, uV, uW]
 refine qL (qJ (uM rfl (uA rfl (qM (qK (zL ?_))))))
 refine qAj (fun x : Nat × Array Nat => [(0, .slice (some ⟨g, 0, none⟩) n c), (2, .int .i64 (hi : Nat)), (3, .int .i64 (first : Nat)), (8, .int .i64 (x.1 : Nat))]) (fun x => [sl (some ⟨g, 0, none⟩) c 40 1 n (dCO x.2), q, R]) (fun x => hi - x.1) (fun x => siftDown (ltFO cf) hi first x.1 x.2 = siftDown (ltFO cf) hi first lo d ∧ OkDO ok n x.2 ∧ x.1 ≤ n) (lo, d) ?_ ?_ ?_ ?_
 ·exact ⟨rfl, hd, hlo⟩
 ·exact ⟨rfl, rfl, rfl, rfl, trivial⟩
 ·exact uI
 rintro ⟨ro, e⟩ ⟨he, hd', hro⟩
 simp only at he hd' hro ⊢
 have hs := hd'.1
 refine zL (qL (qJ (uM rfl (uB (qJn rfl rfl (by omega) (by omega)) ?_))))
 refine uB (uAa rfl rfl) ?_
 refine uA rfl (qM (qK (qL (qL (qJ (uM rfl (uM rfl (uB (y_ge rfl rfl) ?_))))))))
 refine qM (qK ?_)
 refine zF rfl (fun h1 => ?_) (fun h1 => ?_)
 ·rw [siftDown, dif_pos (show 2 * ro + 1 ≥ hi by omega)] at he
  subst he
  refine kJ (qQ (qBx rfl (qQ (zI ?_))))
  exact uZe rfl .nil ⟨rfl, rfl, hd'⟩
 refine zC (qK (qL (qL (qAw (by kernel_rfl) ?_))))
 refine uM rfl (uB (uAa rfl rfl) ?_)
 refine uM rfl (uB (y_lt rfl rfl) ?_)
 refine uM rfl ?_
 refine qAl 21 rfl (fun h2 => ?_) (fun h2 => ?_)
 ·have f0 := qAh e (i := first + (2 * ro + 1)) (by omega) ((first : Int) + (2 * (ro : Int) + 1)).toNat (by omega)
  have f1 := qAh e (i := first + (2 * ro + 1) + 1) (by omega) ((first : Int) + (2 * (ro : Int) + 1) + 1).toNat (by omega)
  have hcc := hc _ _ (hd'.2 (first + (2 * ro + 1)) (by omega)) (hd'.2 (first + (2 * ro + 1) + 1) (by omega))
  refine kQ rfl rfl (uM rfl (kQ rfl rfl (uM rfl (kQ rfl rfl (uM rfl (kQ rfl rfl (uB (uAa rfl rfl) ?_)))))))
  refine kQ rfl rfl (uB (uAj rfl rfl) ?_)
  refine kQ rfl rfl (uL ?_)
  refine kQ rfl rfl (uM rfl (kQ rfl rfl (uM rfl (kQ rfl rfl (uM rfl (kQ rfl rfl (uB (uAa rfl rfl) ?_)))))))
  refine kQ rfl rfl (uB (uAa rfl rfl) ?_)
  refine kQ rfl rfl (uB (uAj rfl rfl) ?_)
  refine kQ rfl rfl (uL ?_)
  refine kQ rfl rfl (uX (hcc) rfl ?_)
  rintro _ _ ⟨rfl, rfl⟩
  simp only [uV, uW]
  refine uB (qY rfl rfl) ?_
  refine qM (qK ?_)
  refine zF rfl (fun h3 => ?_) (fun h3 => ?_)
  ·have hk := qGv (lt := ltFO cf) (d := e) (first := first) (show ¬ 2 * ro + 1 ≥ hi by omega) (show 2 * ro + 2 < hi by omega) (by rw [if_pos (by simp [ltFO, h3]; omega)])
   refine qJ (uM rfl (uB (uAa rfl rfl) ?_))
   refine uA rfl (qM (qK ?_))
   refine w_eq 9 (.int .i64 ((2 * ro + 2 : Nat) : Int)) rfl (zX (by omega)) ?_
   rw [hk] at he
   have f2 := qAh e (i := first + ro) (by omega) ((first : Int) + (ro : Int)).toNat (by omega)
   have f3 := qAh e (i := first + (2 * ro + 2)) (by omega) ((first : Int) + ((2 * ro + 2 : Nat) : Int)).toNat (by omega)
   have hcd := hc _ _ (hd'.2 (first + ro) (by omega)) (hd'.2 (first + (2 * ro + 2)) (by omega))
   refine qL (qL (qAw (by kernel_rfl) ?_))
   refine uM rfl (uM rfl (uM rfl (uB (uAa rfl rfl) ?_)))
   refine uB (uAj rfl rfl) ?_
   refine uL ?_
   refine uM rfl (uM rfl (uM rfl (uB (uAa rfl rfl) ?_)))
   refine uB (uAj rfl rfl) ?_
   refine uL ?_
   refine uX (hcd) rfl ?_
   rintro _ _ ⟨rfl, rfl⟩
   simp only [uV, uW]
   refine uB (qBm rfl) ?_
   refine qM (qK ?_)
   refine qBe rfl (fun h5 => ?_) (fun h5 => ?_)
   ·rw [if_pos (by simp [ltFO, h5])] at he
    subst he
    refine kC (qX (zO (qX (zO ?_))))
    exact uZ rfl .nil ⟨rfl, rfl, hd'⟩
   rw [if_neg (by simp [ltFO, h5])] at he
   refine zC (qK (qL ?_))
   refine qAo 21 ([sl (some ⟨g, 0, none⟩) c 40 1 n (dCO e), q]) [(23, [])] ?_ ?_
   ·exact uI
   refine uP 0 rfl (qC rfl) ?_
   refine uP 1 rfl (qC rfl) ?_
   refine uP 2 rfl (qC rfl) ?_
   refine uP 3 rfl (uAa rfl rfl) ?_
   refine uP 4 rfl (qC rfl) ?_
   refine uP 5 rfl (qC rfl) ?_
   refine uP 6 rfl (qC rfl) ?_
   refine uP 7 rfl (uAa rfl rfl) ?_
   refine uP 8 rfl (qC rfl) ?_
   refine uP 9 rfl (qC rfl) ?_
   refine uP 10 rfl (qC rfl) ?_
   refine uP 11 rfl (uAa rfl rfl) ?_
   refine uP 12 rfl (uAj rfl rfl) ?_
   refine uQ 13 rfl (uY) ?_
   refine uP 14 rfl (qC rfl) ?_
   refine uP 15 rfl (qC rfl) ?_
   refine uP 16 rfl (qC rfl) ?_
   refine uP 17 rfl (uAa rfl rfl) ?_
   refine uP 18 rfl (uAj rfl rfl) ?_
   refine uQ 19 rfl (uY) ?_
   refine uP 20 rfl (uAj rfl rfl) ?_
   apply qBo rfl (by kernel_rfl) rfl
   refine uJ ?_
   refine uE ?_
   refine uP 22 rfl (uAj rfl rfl) ?_
   apply qBn rfl (by kernel_rfl) (by kernel_rfl) rfl
   refine uJ ?_
   refine qK (qJ (uM rfl (uA rfl (qM (zJ ?_)))))
   simp only [zQ]
   rw [qCn e (i := (first + ro)) (j := (first + (2 * ro + 2))) (by omega) (by omega)]
   case ho => omega
   case ho' => omega
   refine zT (ι := Nat × Array Nat) (j := (2 * ro + 2, swp e (first + ro) (first + (2 * ro + 2)))) ⟨he, hd'.swp (by omega) (by omega), by show 2 * ro + 2 ≤ n; omega⟩ (by show hi - (2 * ro + 2) < hi - ro; omega) ⟨rfl, rfl, rfl, rfl, trivial⟩ uI
  have hk := qGv (lt := ltFO cf) (d := e) (first := first) (show ¬ 2 * ro + 1 ≥ hi by omega) (show 2 * ro + 1 < hi by omega) (by rw [if_neg (by simp [ltFO, h3])])
  refine zC (qK ?_)
  refine w_eq 9 (.int .i64 ((2 * ro + 1 : Nat) : Int)) rfl (zX (by omega)) ?_
  rw [hk] at he
  have f2 := qAh e (i := first + ro) (by omega) ((first : Int) + (ro : Int)).toNat (by omega)
  have f3 := qAh e (i := first + (2 * ro + 1)) (by omega) ((first : Int) + ((2 * ro + 1 : Nat) : Int)).toNat (by omega)
  have hcd := hc _ _ (hd'.2 (first + ro) (by omega)) (hd'.2 (first + (2 * ro + 1)) (by omega))
  refine qL (qL (qAw (by kernel_rfl) ?_))
  refine uM rfl (uM rfl (uM rfl (uB (uAa rfl rfl) ?_)))
  refine uB (uAj rfl rfl) ?_
  refine uL ?_
  refine uM rfl (uM rfl (uM rfl (uB (uAa rfl rfl) ?_)))
  refine uB (uAj rfl rfl) ?_
  refine uL ?_
  refine uX (hcd) rfl ?_
  rintro _ _ ⟨rfl, rfl⟩
  simp only [uV, uW]
  refine uB (qBm rfl) ?_
  refine qM (qK ?_)
  refine qBe rfl (fun h5 => ?_) (fun h5 => ?_)
  ·rw [if_pos (by simp [ltFO, h5])] at he
   subst he
   refine kC (qX (zO (qX (zO ?_))))
   exact uZ rfl .nil ⟨rfl, rfl, hd'⟩
  rw [if_neg (by simp [ltFO, h5])] at he
  refine zC (qK (qL ?_))
  refine qAo 21 ([sl (some ⟨g, 0, none⟩) c 40 1 n (dCO e), q]) [(23, [])] ?_ ?_
  ·exact uI
  refine uP 0 rfl (qC rfl) ?_
  refine uP 1 rfl (qC rfl) ?_
  refine uP 2 rfl (qC rfl) ?_
  refine uP 3 rfl (uAa rfl rfl) ?_
  refine uP 4 rfl (qC rfl) ?_
  refine uP 5 rfl (qC rfl) ?_
  refine uP 6 rfl (qC rfl) ?_
  refine uP 7 rfl (uAa rfl rfl) ?_
  refine uP 8 rfl (qC rfl) ?_
  refine uP 9 rfl (qC rfl) ?_
  refine uP 10 rfl (qC rfl) ?_
  refine uP 11 rfl (uAa rfl rfl) ?_
  refine uP 12 rfl (uAj rfl rfl) ?_
  refine uQ 13 rfl (uY) ?_
  refine uP 14 rfl (qC rfl) ?_
  refine uP 15 rfl (qC rfl) ?_
  refine uP 16 rfl (qC rfl) ?_
  refine uP 17 rfl (uAa rfl rfl) ?_
  refine uP 18 rfl (uAj rfl rfl) ?_
  refine uQ 19 rfl (uY) ?_
  refine uP 20 rfl (uAj rfl rfl) ?_
  apply qBo rfl (by kernel_rfl) rfl
  refine uJ ?_
  refine uE ?_
  refine uP 22 rfl (uAj rfl rfl) ?_
  apply qBn rfl (by kernel_rfl) (by kernel_rfl) rfl
  refine uJ ?_
  refine qK (qJ (uM rfl (uA rfl (qM (zJ ?_)))))
  simp only [zQ]
  rw [qCn e (i := (first + ro)) (j := (first + (2 * ro + 1))) (by omega) (by omega)]
  case ho => omega
  case ho' => omega
  refine zT (ι := Nat × Array Nat) (j := (2 * ro + 1, swp e (first + ro) (first + (2 * ro + 1)))) ⟨he, hd'.swp (by omega) (by omega), by show 2 * ro + 1 ≤ n; omega⟩ (by show hi - (2 * ro + 1) < hi - ro; omega) ⟨rfl, rfl, rfl, rfl, trivial⟩ uI
 have hk := qGv (lt := ltFO cf) (d := e) (first := first) (show ¬ 2 * ro + 1 ≥ hi by omega) (show 2 * ro + 1 < hi by omega) (by rw [if_neg (by simp; omega)])
 refine zU rfl rfl rfl rfl (zU rfl rfl rfl rfl (zU rfl rfl rfl rfl (zU rfl rfl rfl rfl (zU rfl rfl rfl rfl (zU rfl rfl rfl rfl (zU rfl rfl rfl rfl (zU rfl rfl rfl rfl ?_)))))))
 refine zU rfl rfl rfl rfl (zU rfl rfl rfl rfl (zU rfl rfl rfl rfl (zU rfl rfl rfl rfl (zU rfl rfl rfl rfl (zU rfl rfl rfl rfl ?_)))))
 refine uB (qZ rfl rfl) ?_
 refine qM (qK (zD rfl (zC (qK ?_))))
 refine w_eq 9 (.int .i64 ((2 * ro + 1 : Nat) : Int)) rfl (zX (by omega)) ?_
 rw [hk] at he
 have f2 := qAh e (i := first + ro) (by omega) ((first : Int) + (ro : Int)).toNat (by omega)
 have f3 := qAh e (i := first + (2 * ro + 1)) (by omega) ((first : Int) + ((2 * ro + 1 : Nat) : Int)).toNat (by omega)
 have hcd := hc _ _ (hd'.2 (first + ro) (by omega)) (hd'.2 (first + (2 * ro + 1)) (by omega))
 refine qL (qL (qAw (by kernel_rfl) ?_))
 refine uM rfl (uM rfl (uM rfl (uB (uAa rfl rfl) ?_)))
 refine uB (uAj rfl rfl) ?_
 refine uL ?_
 refine uM rfl (uM rfl (uM rfl (uB (uAa rfl rfl) ?_)))
 refine uB (uAj rfl rfl) ?_
 refine uL ?_
 refine uX (hcd) rfl ?_
 rintro _ _ ⟨rfl, rfl⟩
 simp only [uV, uW]
 refine uB (qBm rfl) ?_
 refine qM (qK ?_)
 refine qBe rfl (fun h5 => ?_) (fun h5 => ?_)
 ·rw [if_pos (by simp [ltFO, h5])] at he
  subst he
  refine kC (qX (zO (qX (zO ?_))))
  exact uZ rfl .nil ⟨rfl, rfl, hd'⟩
 rw [if_neg (by simp [ltFO, h5])] at he
 refine zC (qK (qL ?_))
 refine qAo 21 ([sl (some ⟨g, 0, none⟩) c 40 1 n (dCO e), q]) [(23, [])] ?_ ?_
 ·exact uI
 refine uP 0 rfl (qC rfl) ?_
 refine uP 1 rfl (qC rfl) ?_
 refine uP 2 rfl (qC rfl) ?_
 refine uP 3 rfl (uAa rfl rfl) ?_
 refine uP 4 rfl (qC rfl) ?_
 refine uP 5 rfl (qC rfl) ?_
 refine uP 6 rfl (qC rfl) ?_
 refine uP 7 rfl (uAa rfl rfl) ?_
 refine uP 8 rfl (qC rfl) ?_
 refine uP 9 rfl (qC rfl) ?_
 refine uP 10 rfl (qC rfl) ?_
 refine uP 11 rfl (uAa rfl rfl) ?_
 refine uP 12 rfl (uAj rfl rfl) ?_
 refine uQ 13 rfl (uY) ?_
 refine uP 14 rfl (qC rfl) ?_
 refine uP 15 rfl (qC rfl) ?_
 refine uP 16 rfl (qC rfl) ?_
 refine uP 17 rfl (uAa rfl rfl) ?_
 refine uP 18 rfl (uAj rfl rfl) ?_
 refine uQ 19 rfl (uY) ?_
 refine uP 20 rfl (uAj rfl rfl) ?_
 apply qBo rfl (by kernel_rfl) rfl
 refine uJ ?_
 refine uE ?_
 refine uP 22 rfl (uAj rfl rfl) ?_
 apply qBn rfl (by kernel_rfl) (by kernel_rfl) rfl
 refine uJ ?_
 refine qK (qJ (uM rfl (uA rfl (qM (zJ ?_)))))
 simp only [zQ]
 rw [qCn e (i := (first + ro)) (j := (first + (2 * ro + 1))) (by omega) (by omega)]
 case ho => omega
 case ho' => omega
 refine zT (ι := Nat × Array Nat) (j := (2 * ro + 1, swp e (first + ro) (first + (2 * ro + 1)))) ⟨he, hd'.swp (by omega) (by omega), by show 2 * ro + 1 ≤ n; omega⟩ (by show hi - (2 * ro + 1) < hi - ro; omega) ⟨rfl, rfl, rfl, rfl, trivial⟩ uI
open Go.Sort in
theorem qRw (hE : Seat E) (hc : CmpO E q ok cf) {d : Array Nat} (hd : OkDO ok n d) {a b : Nat} (hab : a < b) (hb : b ≤ n) (hn : n < 1099511627776) :
  Ct E 127 [.slice (some ⟨g, 0, none⟩) n c, .int .i64 (a : Nat), .int .i64 (b : Nat)] [sl (some ⟨g, 0, none⟩) c 40 1 n (dCO d), q]
   (fun v Q => v = .tuple #[] ∧ Q = [sl (some ⟨g, 0, none⟩) c 40 1 n (dCO (heapSort (ltFO cf) d a b)), q] ∧ OkDO ok n (heapSort (ltFO cf) d a b)) := by
 obtain ⟨l, hl⟩ : ∃ l, l = b - a := ⟨_, rfl⟩
 have e0 : heapSort (ltFO cf) d a b = heapPop (ltFO cf) a l (heapBuild (ltFO cf) l a ((l - 1) / 2 + 1) d) := by unfold heapSort; rw [← hl]
 rw [e0]
 refine zP (hE.fn Tryz.func127) rfl rfl rfl (fun R => ?_)
 simp only [qAe, uV, uW]
 refine qL (qJ (uM rfl (uA rfl (qM (qK (qL (qJ (uA rfl (qM (qK (qL (qJ (uM rfl (uM rfl (uB (uAs rfl rfl) ?_)))))))))))))))
 refine uA rfl (qM (qK ?_))
 refine w_eq 8 (.int .i64 ((l : Nat) : Int)) rfl (zX (by omega)) ?_
 refine qL (qL (qJ (uM rfl (uB (uAs rfl rfl) ?_))))
 refine uB (qHe rfl rfl (by omega) (by omega) (by omega)) ?_
 refine uA rfl (qM (qK (zL ?_)))
 refine qAj (fun x : Nat × Array Nat => [(0, .slice (some ⟨g, 0, none⟩) n c), (6, .int .i64 (a : Nat)), (7, .int .i64 0), (8, .int .i64 (l : Nat)), (9, .int .i64 ((x.1 : Int) - 1))]) (fun x => [sl (some ⟨g, 0, none⟩) c 40 1 n (dCO x.2), q, R]) (fun x => x.1) (fun x => heapBuild (ltFO cf) l a x.1 x.2 = heapBuild (ltFO cf) l a ((l - 1) / 2 + 1) d ∧ OkDO ok n x.2 ∧ x.1 ≤ l) ((l - 1) / 2 + 1, d) ?_ ?_ ?_ ?_
 ·exact ⟨rfl, hd, by show (l - 1) / 2 + 1 ≤ l; omega⟩
 ·exact ⟨rfl, rfl, rfl, rfl, congrArg some (zX (by simp only; omega)), trivial⟩
 ·exact uI
 rintro ⟨k, e⟩ ⟨he, hd', hk⟩
 simp only at he hd' hk ⊢
 refine qL (qL (qJ (uM rfl (uB (y_ge rfl rfl) ?_))))
 refine qM (qK ?_)
 refine zF rfl (fun h1 => ?_) (fun h1 => ?_)
 ·obtain ⟨k, rfl⟩ : ∃ j, k = j + 1 := ⟨k - 1, by omega⟩
  refine zC (qK ?_)
  refine w_eq 9 (.int .i64 ((k : Nat) : Int)) rfl (zX (by omega)) ?_
  refine qL (zL (qJ (uM rfl (uM rfl (uM rfl (uM rfl (uX (qKq hE hc hd' (by omega) (by omega) hn) rfl ?_)))))))
  rintro _ _ ⟨rfl, rfl, hd2⟩
  simp only [uV, uW]
  refine qM (zJ (qK (qJ (uM rfl (uB (uAs rfl rfl) ?_)))))
  refine uA rfl (qM ?_)
  refine zT (ι := Nat × Array Nat) (j := (k, siftDown (ltFO cf) l a k e)) ⟨he, hd2, by show k ≤ l; omega⟩ (by show k < k + 1; omega) ⟨rfl, rfl, rfl, rfl, rfl, trivial⟩ uI
 obtain rfl : k = 0 := by omega
 rw [heapBuild] at he
 rw [← he]
 clear he hd e0
 refine kJ (qQ (qQ (zI (qK (qL (qJ (uM rfl (uB (uAs rfl rfl) ?_))))))))
 refine uA rfl (qM (qK (zL ?_)))
 refine qAj (fun x : Nat × Array Nat => [(0, .slice (some ⟨g, 0, none⟩) n c), (6, .int .i64 (a : Nat)), (7, .int .i64 0), (10, .int .i64 ((x.1 : Int) - 1))]) (fun x => [sl (some ⟨g, 0, none⟩) c 40 1 n (dCO x.2), q, R]) (fun x => x.1) (fun x => heapPop (ltFO cf) a x.1 x.2 = heapPop (ltFO cf) a l e ∧ OkDO ok n x.2 ∧ x.1 ≤ l) (l, e) ?_ ?_ ?_ ?_
 ·exact ⟨rfl, hd', Nat.le_refl _⟩
 ·exact ⟨rfl, rfl, rfl, rfl, trivial⟩
 ·exact uI
 rintro ⟨k, u⟩ ⟨hu, hdu, hk⟩
 simp only at hu hdu hk ⊢
 have hs := hdu.1
 refine qL (qL (qJ (uM rfl (uB (y_ge rfl rfl) ?_))))
 refine qM (qK ?_)
 refine zF rfl (fun h2 => ?_) (fun h2 => ?_)
 ·obtain ⟨k, rfl⟩ : ∃ j, k = j + 1 := ⟨k - 1, by omega⟩
  have f0 := qAh u (i := a + k) (by omega) ((a : Int) + (k : Int)).toNat (by omega)
  have f1 := qAh u (i := a) (by omega) (a : Int).toNat (by omega)
  refine zC (qK ?_)
  refine w_eq 10 (.int .i64 ((k : Nat) : Int)) rfl (zX (by omega)) ?_
  refine qL (zL (qL ?_))
  refine qAo 17 ([sl (some ⟨g, 0, none⟩) c 40 1 n (dCO u), q]) [(19, [])] ?_ ?_
  ·exact uI
  refine uP 0 rfl (qC rfl) ?_
  refine uP 1 rfl (qC rfl) ?_
  refine uP 2 rfl (qC rfl) ?_
  refine uP 3 rfl (qC rfl) ?_
  refine uP 4 rfl (qC rfl) ?_
  refine uP 5 rfl (uAa rfl rfl) ?_
  refine uP 6 rfl (qC rfl) ?_
  refine uP 7 rfl (qC rfl) ?_
  refine uP 8 rfl (qC rfl) ?_
  refine uP 9 rfl (uAa rfl rfl) ?_
  refine uP 10 rfl (uAj rfl rfl) ?_
  refine uQ 11 rfl (uY) ?_
  refine uP 12 rfl (qC rfl) ?_
  refine uP 13 rfl (qC rfl) ?_
  refine uP 14 rfl (uAj rfl rfl) ?_
  refine uQ 15 rfl (uY) ?_
  refine uP 16 rfl (uAj rfl rfl) ?_
  apply qBo rfl (by kernel_rfl) rfl
  refine uJ ?_
  refine uE ?_
  refine uP 18 rfl (uAj rfl rfl) ?_
  apply qBn rfl (by kernel_rfl) (by kernel_rfl) rfl
  refine uJ ?_
  refine qK ?_
  simp only [zQ]
  rw [qCn u (i := a) (j := (a + k)) (by omega) (by omega)]
  case ho => omega
  case ho' => omega
  refine qJ (uM rfl (uM rfl (uM rfl (uM rfl ?_))))
  refine uX (qKq (lo := 0) hE hc (hdu.swp (show a < n by omega) (show a + k < n by omega)) (by omega) (by omega) hn) rfl ?_
  rintro _ _ ⟨rfl, rfl, hd2⟩
  simp only [uV, uW]
  refine qM (zJ (qK (qJ (uM rfl (uB (uAs rfl rfl) ?_)))))
  refine uA rfl (qM ?_)
  refine zT (ι := Nat × Array Nat) (j := (k, siftDown (ltFO cf) k a 0 (swp u a (a + k)))) ⟨hu, hd2, by show k ≤ l; omega⟩ (by show k < k + 1; omega) ⟨rfl, rfl, rfl, rfl, trivial⟩ uI
 obtain rfl : k = 0 := by omega
 rw [heapPop] at hu
 subst hu
 refine kJ (qQ (qQ (zI ?_)))
 exact uZe rfl .nil ⟨rfl, rfl, hdu⟩
end
section
variable {E : Env}
variable {q : HP} {ok : Nat → Prop} {cf : Nat → Nat → Int} {g c n : Nat}
open Go.Sort in
theorem qIs (hE : Seat E) (hc : CmpO E q ok cf) {d : Array Nat} (hd : OkDO ok n d) {a b pv : Nat} (hap : a ≤ pv) (hpb : pv < b) (hb : b ≤ n) (hn : n < 1099511627776) :
  Ct E 133 [.slice (some ⟨g, 0, none⟩) n c, .int .i64 (a : Nat), .int .i64 (b : Nat), .int .i64 (pv : Nat)] [sl (some ⟨g, 0, none⟩) c 40 1 n (dCO d), q]
   (fun v Q => v = .int .i64 ((partitionEqual (ltFO cf) d a b pv).1 : Nat) ∧ Q = [sl (some ⟨g, 0, none⟩) c 40 1 n (dCO (partitionEqual (ltFO cf) d a b pv).2), q] ∧ OkDO ok n (partitionEqual (ltFO cf) d a b pv).2) := by
 have hs := hd.1
 have f2 := qAh d (i := pv) (by omega) ((pv : Int)).toNat (by omega)
 have f3 := qAh d (i := a) (by omega) ((a : Int)).toNat (by omega)
 obtain ⟨r, hr⟩ : ∃ r, r = partitionEqual (ltFO cf) d a b pv := ⟨_, rfl⟩
 have hr' := hr
 unfold partitionEqual at hr'
 rw [← hr]
 refine zP (hE.fn Tryz.func133) rfl rfl rfl (fun R => ?_)
 simp only [qAe, uV, uW]
 refine qL (qJ (uA rfl (qM (qK (qL ?_)))))
 refine qAo 13 ([sl (some ⟨g, 0, none⟩) c 40 1 n (dCO d), q]) [(15, [])] ?_ ?_
 ·exact uI
 refine uP 0 rfl (qC rfl) ?_
 refine uP 1 rfl (qC rfl) ?_
 refine uP 2 rfl (qC rfl) ?_
 refine uP 3 rfl (qC rfl) ?_
 refine uP 4 rfl (qC rfl) ?_
 refine uP 5 rfl (qC rfl) ?_
 refine uP 6 rfl (uAj rfl rfl) ?_
 refine uQ 7 rfl (uY) ?_
 refine uP 8 rfl (qC rfl) ?_
 refine uP 9 rfl (qC rfl) ?_
 refine uP 10 rfl (uAj rfl rfl) ?_
 refine uQ 11 rfl (uY) ?_
 refine uP 12 rfl (uAj rfl rfl) ?_
 apply qBo rfl (by kernel_rfl) rfl
 refine uJ ?_
 refine uE ?_
 refine uP 14 rfl (uAj rfl rfl) ?_
 apply qBn rfl (by kernel_rfl) (by kernel_rfl) rfl
 refine uJ ?_
 refine qK (qL (qJ (uM rfl (uB (uAa rfl rfl) ?_))))
 refine uM rfl (uB (uAs rfl rfl) ?_)
 refine uA rfl (uA rfl (qM (qK ?_)))
 simp only [zQ]
 rw [qCn d (i := a) (j := pv) (by omega) (by omega)]
 case ho => omega
 case ho' => omega
 refine w_eq 9 (.int .i64 ((a + 1 : Nat) : Int)) rfl (zX (by omega)) ?_
 refine w_eq 10 (.int .i64 ((b - 1 : Nat) : Int)) rfl (zX (by omega)) ?_
 have hd1 := hd.swp (show a < n by omega) (show pv < n by omega)
 generalize swp d a pv = d1 at *
 refine qL (zL ?_)
 refine qAj (fun x : Nat × Nat × Array Nat => [(0, .slice (some ⟨g, 0, none⟩) n c), (1, .int .i64 (a : Nat)), (9, .int .i64 (x.1 : Nat)), (10, .int .i64 (x.2.1 : Nat))]) (fun x => [sl (some ⟨g, 0, none⟩) c 40 1 n (dCO x.2.2), q, R]) (fun x => x.2.1 + 1 - x.1) (fun x => partEqLoop (ltFO cf) a x.1 x.2.1 x.2.2 = r ∧ OkDO ok n x.2.2 ∧ a < x.1 ∧ a ≤ x.2.1 ∧ x.1 ≤ x.2.1 + 2 ∧ x.2.1 < b) (a + 1, b - 1, d1) ?_ ?_ ?_ ?_
 ·exact ⟨hr'.symm, hd1, by show a < a + 1; omega, by show a ≤ b - 1; omega, by show a + 1 ≤ b - 1 + 2; omega, by show b - 1 < b; omega⟩
 ·exact ⟨rfl, rfl, rfl, rfl, trivial⟩
 ·exact uI
 rintro ⟨i, j, e⟩ ⟨he, hde, hi, haj, hij, hj⟩
 simp only at he hde hi haj hij hj ⊢
 have hse := hde.1
 rw [partEqLoop_eq] at he
 obtain ⟨i2, hi2⟩ : ∃ i2, scanUp (fun x => !ltFO cf e[a]! x) e j i = i2 := ⟨_, rfl⟩
 rw [hi2] at he
 obtain ⟨j2, hj2⟩ : ∃ j2, scanDown (fun x => ltFO cf e[a]! x) e i2 j = j2 := ⟨_, rfl⟩
 rw [hj2] at he
 refine zL ?_
 refine qDs (fun _ : Unit => [(0, .slice (some ⟨g, 0, none⟩) n c), (1, .int .i64 (a : Nat)), (9, .int .i64 ((i2 : Nat) : Int)), (10, .int .i64 ((j : Nat) : Int))]) (fun _ => [sl (some ⟨g, 0, none⟩) c 40 1 n (dCO (e)), q, R]) (fun _ => i ≤ i2 ∧ i2 ≤ j + 2) ?_ ?_
 ·refine zL ?_
  refine qAj (fun x : Nat => [(0, .slice (some ⟨g, 0, none⟩) n c), (1, .int .i64 (a : Nat)), (9, .int .i64 ((x : Nat) : Int)), (10, .int .i64 ((j : Nat) : Int))]) (fun _ => [sl (some ⟨g, 0, none⟩) c 40 1 n (dCO (e)), q, R]) (fun x => j + 1 - x) (fun x => scanUp (fun x => !ltFO cf (e)[a]! x) (e) (j) x = i2 ∧ i ≤ x ∧ x ≤ j + 2) (i) ?_ ?_ ?_ ?_
  ·exact ⟨hi2, by omega, by omega⟩
  ·exact ⟨rfl, rfl, rfl, rfl, trivial⟩
  ·exact uI
  rintro x ⟨hx, hx1, hx2⟩
  refine qL (qL (qAw (by kernel_rfl) ?_))
  refine uM rfl (uM rfl (uB (y_le rfl rfl) ?_))
  refine uM rfl ?_
  refine qAl 32 rfl (fun su => ?_) (fun su => ?_)
  ·have f0 := qAh (e) (i := x) (by omega) ((x : Nat) : Int).toNat (by omega)
   have f1 := qAh (e) (i := a) (by omega) ((a : Nat) : Int).toNat (by omega)
   have hcc := hc _ _ (hde.2 (a) (by omega)) (hde.2 (x) (by omega))
   refine kQ rfl rfl (uM rfl (kQ rfl rfl (uM rfl (kQ rfl rfl (uB (uAj rfl rfl) ?_)))))
   refine kQ rfl rfl (uL ?_)
   refine kQ rfl rfl (uM rfl (kQ rfl rfl (uM rfl (kQ rfl rfl (uB (uAj rfl rfl) ?_)))))
   refine kQ rfl rfl (uL ?_)
   refine kQ rfl rfl (uX (hcc) rfl ?_)
   rintro _ _ ⟨rfl, rfl⟩
   simp only [uV, uW]
   refine kQ rfl rfl (uB (qBm rfl) ?_)
   refine uB (qY rfl rfl) ?_
   refine qM (qK ?_)
   refine qBe rfl (fun gu => ?_) (fun gu => ?_)
   ·refine zC (qK (zL (qJ ?_)))
    refine uM rfl (uB (uAa rfl rfl) ?_)
    refine uA rfl (qM (zJ ?_))
    refine zT (x + 1) ⟨?_, by omega, by omega⟩ (by omega) ⟨rfl, rfl, congrArg some (zX (by omega)), rfl, trivial⟩ uI
    rw [← hx]
    conv => rhs; rw [scanUp, if_pos (by simp [ltFO, gu]; omega)]
   rw [scanUp, if_neg (by simp [ltFO, gu])] at hx
   rw [← hx]
   refine kJ (qQ (qQ (zI ?_)))
   refine qBd () (by omega) ⟨rfl, rfl, rfl, rfl, trivial⟩ uI
  rw [scanUp, if_neg (by simp; omega)] at hx
  rw [← hx]
  refine zU rfl rfl rfl rfl (zU rfl rfl rfl rfl (zU rfl rfl rfl rfl (zU rfl rfl rfl rfl (zU rfl rfl rfl rfl (zU rfl rfl rfl rfl (zU rfl rfl rfl rfl (zU rfl rfl rfl rfl ?_)))))))
  refine zU rfl rfl rfl rfl (zU rfl rfl rfl rfl ?_)
  refine uB (qZ rfl rfl) ?_
  refine qM (qK (zD rfl (kJ (qQ (qQ (zI ?_))))))
  refine qBd () (by omega) ⟨rfl, rfl, rfl, rfl, trivial⟩ uI
 rintro _ ⟨hi2a, hi2b⟩
 refine qDs (fun _ : Unit => [(0, .slice (some ⟨g, 0, none⟩) n c), (1, .int .i64 (a : Nat)), (9, .int .i64 ((i2 : Nat) : Int)), (10, .int .i64 ((j2 : Nat) : Int))]) (fun _ => [sl (some ⟨g, 0, none⟩) c 40 1 n (dCO (e)), q, R]) (fun _ => a ≤ j2 ∧ j2 ≤ j) ?_ ?_
 ·refine zL ?_
  refine qAj (fun x : Nat => [(0, .slice (some ⟨g, 0, none⟩) n c), (1, .int .i64 (a : Nat)), (9, .int .i64 ((i2 : Nat) : Int)), (10, .int .i64 ((x : Nat) : Int))]) (fun _ => [sl (some ⟨g, 0, none⟩) c 40 1 n (dCO (e)), q, R]) (fun x => x) (fun x => scanDown (fun x => ltFO cf (e)[a]! x) (e) (i2) x = j2 ∧ a ≤ x ∧ x ≤ j) (j) ?_ ?_ ?_ ?_
  ·exact ⟨hj2, by omega, by omega⟩
  ·exact ⟨rfl, rfl, rfl, rfl, trivial⟩
  ·exact uI
  rintro x ⟨hx, hx1, hx2⟩
  refine qL (qL (qAw (by kernel_rfl) ?_))
  refine uM rfl (uM rfl (uB (y_le rfl rfl) ?_))
  refine uM rfl ?_
  refine qAl 49 rfl (fun sw => ?_) (fun sw => ?_)
  ·obtain ⟨x, rfl⟩ : ∃ k, x = k + 1 := ⟨x - 1, by omega⟩
   have f0 := qAh (e) (i := x + 1) (by omega) ((x + 1 : Nat) : Int).toNat (by omega)
   have f1 := qAh (e) (i := a) (by omega) ((a : Nat) : Int).toNat (by omega)
   have hcc := hc _ _ (hde.2 (a) (by omega)) (hde.2 (x + 1) (by omega))
   refine kQ rfl rfl (uM rfl (kQ rfl rfl (uM rfl (kQ rfl rfl (uB (uAj rfl rfl) ?_)))))
   refine kQ rfl rfl (uL ?_)
   refine kQ rfl rfl (uM rfl (kQ rfl rfl (uM rfl (kQ rfl rfl (uB (uAj rfl rfl) ?_)))))
   refine kQ rfl rfl (uL ?_)
   refine kQ rfl rfl (uX (hcc) rfl ?_)
   rintro _ _ ⟨rfl, rfl⟩
   simp only [uV, uW]
   refine uB (qY rfl rfl) ?_
   refine qM (qK ?_)
   refine zF rfl (fun gw => ?_) (fun gw => ?_)
   ·refine zC (qK (zL (qJ ?_)))
    refine uM rfl (uB (uAs rfl rfl) ?_)
    refine uA rfl (qM (zJ ?_))
    refine zT (x) ⟨?_, by omega, by omega⟩ (by omega) ⟨rfl, rfl, rfl, congrArg some (zX (by omega)), trivial⟩ uI
    rw [← hx]
    conv => rhs; rw [scanDown, if_pos (by simp [ltFO, gw]; omega)]
   rw [scanDown, if_neg (by simp [ltFO, gw])] at hx
   rw [← hx]
   refine kJ (qQ (qQ (zI ?_)))
   refine qBd () (by omega) ⟨rfl, rfl, rfl, rfl, trivial⟩ uI
  have hx' : x = j2 := by
   rw [← hx]
   cases x with
   | zero => rfl
   | succ x => rw [scanDown, if_neg (by simp; omega)]
  rw [← hx']
  refine zU rfl rfl rfl rfl (zU rfl rfl rfl rfl (zU rfl rfl rfl rfl (zU rfl rfl rfl rfl (zU rfl rfl rfl rfl (zU rfl rfl rfl rfl (zU rfl rfl rfl rfl (zU rfl rfl rfl rfl ?_)))))))
  refine zU rfl rfl rfl rfl ?_
  refine uB (qZ rfl rfl) ?_
  refine qM (qK (zD rfl (kJ (qQ (qQ (zI ?_))))))
  refine qBd () (by omega) ⟨rfl, rfl, rfl, rfl, trivial⟩ uI
 rintro _ ⟨hj2a, hj2b⟩
 refine qL (qL (qJ (uM rfl (uM rfl (uB (y_gt rfl rfl) ?_)))))
 refine qM (qK ?_)
 refine zF rfl (fun h7 => ?_) (fun h7 => ?_)
 ·rw [if_pos (by omega)] at he
  subst he
  refine kJ (qQ (qBx rfl (qQ (zI (qK (qL (qJ ?_)))))))
  refine uM rfl (uA rfl (qM (qK (kC ?_))))
  exact uZ rfl (.tmp rfl .nil) ⟨rfl, rfl, hde⟩
 rw [if_neg (by omega)] at he
 have f4 := qAh e (i := i2) (by omega) ((i2 : Int)).toNat (by omega)
 have f5 := qAh e (i := j2) (by omega) ((j2 : Int)).toNat (by omega)
 refine zC (qK (qL ?_))
 refine qAo 13 ([sl (some ⟨g, 0, none⟩) c 40 1 n (dCO e), q]) [(15, [])] ?_ ?_
 ·exact uI
 refine uP 0 rfl (qC rfl) ?_
 refine uP 1 rfl (qC rfl) ?_
 refine uP 2 rfl (qC rfl) ?_
 refine uP 3 rfl (qC rfl) ?_
 refine uP 4 rfl (qC rfl) ?_
 refine uP 5 rfl (qC rfl) ?_
 refine uP 6 rfl (uAj rfl rfl) ?_
 refine uQ 7 rfl (uY) ?_
 refine uP 8 rfl (qC rfl) ?_
 refine uP 9 rfl (qC rfl) ?_
 refine uP 10 rfl (uAj rfl rfl) ?_
 refine uQ 11 rfl (uY) ?_
 refine uP 12 rfl (uAj rfl rfl) ?_
 apply qBo rfl (by kernel_rfl) rfl
 refine uJ ?_
 refine uE ?_
 refine uP 14 rfl (uAj rfl rfl) ?_
 apply qBn rfl (by kernel_rfl) (by kernel_rfl) rfl
 refine uJ ?_
 refine qK (qL (qJ (uM rfl (uB (uAa rfl rfl) ?_))))
 refine uA rfl (qM (qK (qJ (uM rfl (uB (uAs rfl rfl) ?_)))))
 refine uA rfl (qM (zJ ?_))
 simp only [zQ]
 rw [qCn e (i := i2) (j := j2) (by omega) (by omega)]
 case ho => omega
 case ho' => omega
 refine zT (ι := Nat × Nat × Array Nat) (j := (i2 + 1, j2 - 1, swp e i2 j2)) ⟨he, hde.swp (by omega) (by omega), by show a < i2 + 1; omega, by show a ≤ j2 - 1; omega, by show i2 + 1 ≤ j2 - 1 + 2; omega, by show j2 - 1 < b; omega⟩ (by show j2 - 1 + 1 - (i2 + 1) < j + 1 - i; omega) ⟨rfl, rfl, congrArg some (zX (by simp only; omega)), congrArg some (zX (by simp only; omega)), trivial⟩ uI
open Go.Sort in
theorem qPr (hE : Seat E) (hc : CmpO E q ok cf) {d : Array Nat} (hd : OkDO ok n d) {a b pv : Nat} (hap : a ≤ pv) (hpb : pv < b) (hb : b ≤ n) (hn : n < 1099511627776) :
  Ct E 134 [.slice (some ⟨g, 0, none⟩) n c, .int .i64 (a : Nat), .int .i64 (b : Nat), .int .i64 (pv : Nat)] [sl (some ⟨g, 0, none⟩) c 40 1 n (dCO d), q]
   (fun v Q => v = .tuple #[.int .i64 ((partition (ltFO cf) d a b pv).1 : Nat), .bool (partition (ltFO cf) d a b pv).2.1] ∧ Q = [sl (some ⟨g, 0, none⟩) c 40 1 n (dCO (partition (ltFO cf) d a b pv).2.2), q] ∧ OkDO ok n (partition (ltFO cf) d a b pv).2.2) := by
 have hs := hd.1
 have f2 := qAh d (i := pv) (by omega) ((pv : Int)).toNat (by omega)
 have f3 := qAh d (i := a) (by omega) ((a : Int)).toNat (by omega)
 obtain ⟨r, hr⟩ : ∃ r, r = partition (ltFO cf) d a b pv := ⟨_, rfl⟩
 have hr' := hr
 unfold partition at hr'
 simp only at hr'
 rw [← hr]
 refine zP (hE.fn Tryz.func134) rfl rfl rfl (fun R => ?_)
 simp only [qAe, uV, uW]
 refine qL (qJ (uA rfl (uA rfl (qM (qK (qL ?_))))))
 refine qAo 13 ([sl (some ⟨g, 0, none⟩) c 40 1 n (dCO d), q]) [(15, [])] ?_ ?_
 ·exact uI
 refine uP 0 rfl (qC rfl) ?_
 refine uP 1 rfl (qC rfl) ?_
 refine uP 2 rfl (qC rfl) ?_
 refine uP 3 rfl (qC rfl) ?_
 refine uP 4 rfl (qC rfl) ?_
 refine uP 5 rfl (qC rfl) ?_
 refine uP 6 rfl (uAj rfl rfl) ?_
 refine uQ 7 rfl (uY) ?_
 refine uP 8 rfl (qC rfl) ?_
 refine uP 9 rfl (qC rfl) ?_
 refine uP 10 rfl (uAj rfl rfl) ?_
 refine uQ 11 rfl (uY) ?_
 refine uP 12 rfl (uAj rfl rfl) ?_
 apply qBo rfl (by kernel_rfl) rfl
 refine uJ ?_
 refine uE ?_
 refine uP 14 rfl (uAj rfl rfl) ?_
 apply qBn rfl (by kernel_rfl) (by kernel_rfl) rfl
 refine uJ ?_
 refine qK (qL (qJ (uM rfl (uB (uAa rfl rfl) ?_))))
 refine uM rfl (uB (uAs rfl rfl) ?_)
 refine uA rfl (uA rfl (qM (qK ?_)))
 simp only [zQ]
 rw [qCn d (i := a) (j := pv) (by omega) (by omega)]
 case ho => omega
 case ho' => omega
 refine w_eq 10 (.int .i64 ((a + 1 : Nat) : Int)) rfl (zX (by omega)) ?_
 refine w_eq 11 (.int .i64 ((b - 1 : Nat) : Int)) rfl (zX (by omega)) ?_
 have hd1 := hd.swp (show a < n by omega) (show pv < n by omega)
 generalize swp d a pv = d1 at *
 have hs1 := hd1.1
 obtain ⟨i1, hi1⟩ : ∃ i1, scanUp (fun x => ltFO cf x d1[a]!) d1 (b - 1) (a + 1) = i1 := ⟨_, rfl⟩
 rw [hi1] at hr'
 obtain ⟨j1, hj1⟩ : ∃ j1, scanDown (fun x => !ltFO cf x d1[a]!) d1 i1 (b - 1) = j1 := ⟨_, rfl⟩
 rw [hj1] at hr'
 refine qDs (fun _ : Unit => [(0, .slice (some ⟨g, 0, none⟩) n c), (1, .int .i64 (a : Nat)), (10, .int .i64 ((i1 : Nat) : Int)), (11, .int .i64 (((b - 1) : Nat) : Int))]) (fun _ => [sl (some ⟨g, 0, none⟩) c 40 1 n (dCO (d1)), q, R]) (fun _ => (a + 1) ≤ i1 ∧ i1 ≤ (b - 1) + 2) ?_ ?_
 ·refine zL ?_
  refine qAj (fun x : Nat => [(0, .slice (some ⟨g, 0, none⟩) n c), (1, .int .i64 (a : Nat)), (10, .int .i64 ((x : Nat) : Int)), (11, .int .i64 (((b - 1) : Nat) : Int))]) (fun _ => [sl (some ⟨g, 0, none⟩) c 40 1 n (dCO (d1)), q, R]) (fun x => (b - 1) + 1 - x) (fun x => scanUp (fun x => ltFO cf x (d1)[a]!) (d1) ((b - 1)) x = i1 ∧ (a + 1) ≤ x ∧ x ≤ (b - 1) + 2) ((a + 1)) ?_ ?_ ?_ ?_
  ·exact ⟨hi1, by omega, by omega⟩
  ·exact ⟨rfl, rfl, rfl, rfl, trivial⟩
  ·exact uI
  rintro x ⟨hx, hx1, hx2⟩
  refine qL (qL (qAw (by kernel_rfl) ?_))
  refine uM rfl (uM rfl (uB (y_le rfl rfl) ?_))
  refine uM rfl ?_
  refine qAl 33 rfl (fun sp => ?_) (fun sp => ?_)
  ·have f0 := qAh (d1) (i := x) (by omega) ((x : Nat) : Int).toNat (by omega)
   have f1 := qAh (d1) (i := a) (by omega) ((a : Nat) : Int).toNat (by omega)
   have hcc := hc _ _ (hd1.2 (x) (by omega)) (hd1.2 (a) (by omega))
   refine kQ rfl rfl (uM rfl (kQ rfl rfl (uM rfl (kQ rfl rfl (uB (uAj rfl rfl) ?_)))))
   refine kQ rfl rfl (uL ?_)
   refine kQ rfl rfl (uM rfl (kQ rfl rfl (uM rfl (kQ rfl rfl (uB (uAj rfl rfl) ?_)))))
   refine kQ rfl rfl (uL ?_)
   refine kQ rfl rfl (uX (hcc) rfl ?_)
   rintro _ _ ⟨rfl, rfl⟩
   simp only [uV, uW]
   refine uB (qY rfl rfl) ?_
   refine qM (qK ?_)
   refine zF rfl (fun gp => ?_) (fun gp => ?_)
   ·refine zC (qK (zL (qJ ?_)))
    refine uM rfl (uB (uAa rfl rfl) ?_)
    refine uA rfl (qM (zJ ?_))
    refine zT (x + 1) ⟨?_, by omega, by omega⟩ (by omega) ⟨rfl, rfl, congrArg some (zX (by omega)), rfl, trivial⟩ uI
    rw [← hx]
    conv => rhs; rw [scanUp, if_pos (by simp [ltFO, gp]; omega)]
   rw [scanUp, if_neg (by simp [ltFO, gp])] at hx
   rw [← hx]
   refine kJ (qQ (qQ (zI ?_)))
   refine qBd () (by omega) ⟨rfl, rfl, rfl, rfl, trivial⟩ uI
  rw [scanUp, if_neg (by simp; omega)] at hx
  rw [← hx]
  refine zU rfl rfl rfl rfl (zU rfl rfl rfl rfl (zU rfl rfl rfl rfl (zU rfl rfl rfl rfl (zU rfl rfl rfl rfl (zU rfl rfl rfl rfl (zU rfl rfl rfl rfl (zU rfl rfl rfl rfl ?_)))))))
  refine zU rfl rfl rfl rfl ?_
  refine uB (qZ rfl rfl) ?_
  refine qM (qK (zD rfl (kJ (qQ (qQ (zI ?_))))))
  refine qBd () (by omega) ⟨rfl, rfl, rfl, rfl, trivial⟩ uI
 rintro _ ⟨hi1a, hi1b⟩
 refine qDs (fun _ : Unit => [(0, .slice (some ⟨g, 0, none⟩) n c), (1, .int .i64 (a : Nat)), (10, .int .i64 ((i1 : Nat) : Int)), (11, .int .i64 ((j1 : Nat) : Int))]) (fun _ => [sl (some ⟨g, 0, none⟩) c 40 1 n (dCO (d1)), q, R]) (fun _ => a ≤ j1 ∧ j1 ≤ (b - 1)) ?_ ?_
 ·refine zL ?_
  refine qAj (fun x : Nat => [(0, .slice (some ⟨g, 0, none⟩) n c), (1, .int .i64 (a : Nat)), (10, .int .i64 ((i1 : Nat) : Int)), (11, .int .i64 ((x : Nat) : Int))]) (fun _ => [sl (some ⟨g, 0, none⟩) c 40 1 n (dCO (d1)), q, R]) (fun x => x) (fun x => scanDown (fun x => !ltFO cf x (d1)[a]!) (d1) (i1) x = j1 ∧ a ≤ x ∧ x ≤ (b - 1)) ((b - 1)) ?_ ?_ ?_ ?_
  ·exact ⟨hj1, by omega, by omega⟩
  ·exact ⟨rfl, rfl, rfl, rfl, trivial⟩
  ·exact uI
  rintro x ⟨hx, hx1, hx2⟩
  refine qL (qL (qAw (by kernel_rfl) ?_))
  refine uM rfl (uM rfl (uB (y_le rfl rfl) ?_))
  refine uM rfl ?_
  refine qAl 49 rfl (fun sq => ?_) (fun sq => ?_)
  ·obtain ⟨x, rfl⟩ : ∃ k, x = k + 1 := ⟨x - 1, by omega⟩
   have f0 := qAh (d1) (i := x + 1) (by omega) ((x + 1 : Nat) : Int).toNat (by omega)
   have f1 := qAh (d1) (i := a) (by omega) ((a : Nat) : Int).toNat (by omega)
   have hcc := hc _ _ (hd1.2 (x + 1) (by omega)) (hd1.2 (a) (by omega))
   refine kQ rfl rfl (uM rfl (kQ rfl rfl (uM rfl (kQ rfl rfl (uB (uAj rfl rfl) ?_)))))
   refine kQ rfl rfl (uL ?_)
   refine kQ rfl rfl (uM rfl (kQ rfl rfl (uM rfl (kQ rfl rfl (uB (uAj rfl rfl) ?_)))))
   refine kQ rfl rfl (uL ?_)
   refine kQ rfl rfl (uX (hcc) rfl ?_)
   rintro _ _ ⟨rfl, rfl⟩
   simp only [uV, uW]
   refine kQ rfl rfl (uB (qBm rfl) ?_)
   refine uB (qY rfl rfl) ?_
   refine qM (qK ?_)
   refine qBe rfl (fun gq => ?_) (fun gq => ?_)
   ·refine zC (qK (zL (qJ ?_)))
    refine uM rfl (uB (uAs rfl rfl) ?_)
    refine uA rfl (qM (zJ ?_))
    refine zT (x) ⟨?_, by omega, by omega⟩ (by omega) ⟨rfl, rfl, rfl, congrArg some (zX (by omega)), trivial⟩ uI
    rw [← hx]
    conv => rhs; rw [scanDown, if_pos (by simp [ltFO, gq]; omega)]
   rw [scanDown, if_neg (by simp [ltFO, gq])] at hx
   rw [← hx]
   refine kJ (qQ (qQ (zI ?_)))
   refine qBd () (by omega) ⟨rfl, rfl, rfl, rfl, trivial⟩ uI
  have hx' : x = j1 := by
   rw [← hx]
   cases x with
   | zero => rfl
   | succ x => rw [scanDown, if_neg (by simp; omega)]
  rw [← hx']
  refine zU rfl rfl rfl rfl (zU rfl rfl rfl rfl (zU rfl rfl rfl rfl (zU rfl rfl rfl rfl (zU rfl rfl rfl rfl (zU rfl rfl rfl rfl (zU rfl rfl rfl rfl (zU rfl rfl rfl rfl ?_)))))))
  refine zU rfl rfl rfl rfl (zU rfl rfl rfl rfl ?_)
  refine uB (qZ rfl rfl) ?_
  refine qM (qK (zD rfl (kJ (qQ (qQ (zI ?_))))))
  refine qBd () (by omega) ⟨rfl, rfl, rfl, rfl, trivial⟩ uI
 rintro _ ⟨hj1a, hj1b⟩
 refine qL (qL (qJ (uM rfl (uM rfl (uB (y_gt rfl rfl) ?_)))))
 refine qM (qK ?_)
 refine zF rfl (fun h6 => ?_) (fun h6 => ?_)
 ·rw [if_pos (by omega)] at hr'
  subst hr'
  have f4 := qAh d1 (i := a) (by omega) ((a : Int)).toNat (by omega)
  have f5 := qAh d1 (i := j1) (by omega) ((j1 : Int)).toNat (by omega)
  refine qL ?_
  refine qAo 13 ([sl (some ⟨g, 0, none⟩) c 40 1 n (dCO d1), q]) [(15, [])] ?_ ?_
  ·exact uI
  refine uP 0 rfl (qC rfl) ?_
  refine uP 1 rfl (qC rfl) ?_
  refine uP 2 rfl (qC rfl) ?_
  refine uP 3 rfl (qC rfl) ?_
  refine uP 4 rfl (qC rfl) ?_
  refine uP 5 rfl (qC rfl) ?_
  refine uP 6 rfl (uAj rfl rfl) ?_
  refine uQ 7 rfl (uY) ?_
  refine uP 8 rfl (qC rfl) ?_
  refine uP 9 rfl (qC rfl) ?_
  refine uP 10 rfl (uAj rfl rfl) ?_
  refine uQ 11 rfl (uY) ?_
  refine uP 12 rfl (uAj rfl rfl) ?_
  apply qBo rfl (by kernel_rfl) rfl
  refine uJ ?_
  refine uE ?_
  refine uP 14 rfl (uAj rfl rfl) ?_
  apply qBn rfl (by kernel_rfl) (by kernel_rfl) rfl
  refine uJ ?_
  refine qK (qL (qJ (uM rfl (uA rfl (uA rfl (qM (qK (kC (qX ?_)))))))))
  simp only [zQ]
  rw [qCn d1 (i := j1) (j := a) (by omega) (by omega)]
  case ho => omega
  case ho' => omega
  exact uZ rfl (.tmp rfl (.tmp rfl .nil)) ⟨rfl, rfl, hd1.swp (by omega) (by omega)⟩
 rw [if_neg (by omega)] at hr'
 have f4 := qAh d1 (i := i1) (by omega) ((i1 : Int)).toNat (by omega)
 have f5 := qAh d1 (i := j1) (by omega) ((j1 : Int)).toNat (by omega)
 obtain ⟨u, hu⟩ : ∃ u, partLoop (ltFO cf) a (i1 + 1) (j1 - 1) (swp d1 i1 j1) = u := ⟨_, rfl⟩
 rw [hu] at hr'
 refine zC (qK (qL ?_))
 refine qAo 13 ([sl (some ⟨g, 0, none⟩) c 40 1 n (dCO d1), q]) [(15, [])] ?_ ?_
 ·exact uI
 refine uP 0 rfl (qC rfl) ?_
 refine uP 1 rfl (qC rfl) ?_
 refine uP 2 rfl (qC rfl) ?_
 refine uP 3 rfl (qC rfl) ?_
 refine uP 4 rfl (qC rfl) ?_
 refine uP 5 rfl (qC rfl) ?_
 refine uP 6 rfl (uAj rfl rfl) ?_
 refine uQ 7 rfl (uY) ?_
 refine uP 8 rfl (qC rfl) ?_
 refine uP 9 rfl (qC rfl) ?_
 refine uP 10 rfl (uAj rfl rfl) ?_
 refine uQ 11 rfl (uY) ?_
 refine uP 12 rfl (uAj rfl rfl) ?_
 apply qBo rfl (by kernel_rfl) rfl
 refine uJ ?_
 refine uE ?_
 refine uP 14 rfl (uAj rfl rfl) ?_
 apply qBn rfl (by kernel_rfl) (by kernel_rfl) rfl
 refine uJ ?_
 refine qK (qL (qJ (uM rfl (uB (uAa rfl rfl) ?_))))
 refine uA rfl (qM (qK (qL (qJ (uM rfl (uB (uAs rfl rfl) ?_))))))
 refine uA rfl (qM (qK (qL (zL ?_))))
 simp only [zQ]
 rw [qCn d1 (i := i1) (j := j1) (by omega) (by omega)]
 case ho => omega
 case ho' => omega
 refine qAj (fun x : Nat × Nat × Array Nat => [(0, .slice (some ⟨g, 0, none⟩) n c), (1, .int .i64 (a : Nat)), (10, .int .i64 (x.1 : Nat)), (11, .int .i64 (x.2.1 : Nat))]) (fun x => [sl (some ⟨g, 0, none⟩) c 40 1 n (dCO x.2.2), q, R]) (fun x => x.2.1 + 1 - x.1) (fun x => partLoop (ltFO cf) a x.1 x.2.1 x.2.2 = u ∧ OkDO ok n x.2.2 ∧ a < x.1 ∧ a ≤ x.2.1 ∧ x.1 ≤ x.2.1 + 2 ∧ x.2.1 < b) (i1 + 1, j1 - 1, swp d1 i1 j1) ?_ ?_ ?_ ?_
 ·exact ⟨hu, hd1.swp (by omega) (by omega), by show a < i1 + 1; omega, by show a ≤ j1 - 1; omega, by show i1 + 1 ≤ j1 - 1 + 2; omega, by show j1 - 1 < b; omega⟩
 ·exact ⟨rfl, rfl, congrArg some (zX (by simp only; omega)), congrArg some (zX (by simp only; omega)), trivial⟩
 ·exact uI
 rintro ⟨i, j, e⟩ ⟨he, hde, hi, haj, hij, hj⟩
 simp only at he hde hi haj hij hj ⊢
 have hse := hde.1
 rw [partLoop_eq] at he
 obtain ⟨i2, hi2⟩ : ∃ i2, scanUp (fun x => ltFO cf x e[a]!) e j i = i2 := ⟨_, rfl⟩
 rw [hi2] at he
 obtain ⟨j2, hj2⟩ : ∃ j2, scanDown (fun x => !ltFO cf x e[a]!) e i2 j = j2 := ⟨_, rfl⟩
 rw [hj2] at he
 refine zL ?_
 refine qDs (fun _ : Unit => [(0, .slice (some ⟨g, 0, none⟩) n c), (1, .int .i64 (a : Nat)), (10, .int .i64 ((i2 : Nat) : Int)), (11, .int .i64 ((j : Nat) : Int))]) (fun _ => [sl (some ⟨g, 0, none⟩) c 40 1 n (dCO (e)), q, R]) (fun _ => i ≤ i2 ∧ i2 ≤ j + 2) ?_ ?_
 ·refine zL ?_
  refine qAj (fun x : Nat => [(0, .slice (some ⟨g, 0, none⟩) n c), (1, .int .i64 (a : Nat)), (10, .int .i64 ((x : Nat) : Int)), (11, .int .i64 ((j : Nat) : Int))]) (fun _ => [sl (some ⟨g, 0, none⟩) c 40 1 n (dCO (e)), q, R]) (fun x => j + 1 - x) (fun x => scanUp (fun x => ltFO cf x (e)[a]!) (e) (j) x = i2 ∧ i ≤ x ∧ x ≤ j + 2) (i) ?_ ?_ ?_ ?_
  ·exact ⟨hi2, by omega, by omega⟩
  ·exact ⟨rfl, rfl, rfl, rfl, trivial⟩
  ·exact uI
  rintro x ⟨hx, hx1, hx2⟩
  refine qL (qL (qAw (by kernel_rfl) ?_))
  refine uM rfl (uM rfl (uB (y_le rfl rfl) ?_))
  refine uM rfl ?_
  refine qAl 102 rfl (fun su => ?_) (fun su => ?_)
  ·have f0 := qAh (e) (i := x) (by omega) ((x : Nat) : Int).toNat (by omega)
   have f1 := qAh (e) (i := a) (by omega) ((a : Nat) : Int).toNat (by omega)
   have hcc := hc _ _ (hde.2 (x) (by omega)) (hde.2 (a) (by omega))
   refine kQ rfl rfl (uM rfl (kQ rfl rfl (uM rfl (kQ rfl rfl (uB (uAj rfl rfl) ?_)))))
   refine kQ rfl rfl (uL ?_)
   refine kQ rfl rfl (uM rfl (kQ rfl rfl (uM rfl (kQ rfl rfl (uB (uAj rfl rfl) ?_)))))
   refine kQ rfl rfl (uL ?_)
   refine kQ rfl rfl (uX (hcc) rfl ?_)
   rintro _ _ ⟨rfl, rfl⟩
   simp only [uV, uW]
   refine uB (qY rfl rfl) ?_
   refine qM (qK ?_)
   refine zF rfl (fun gu => ?_) (fun gu => ?_)
   ·refine zC (qK (zL (qJ ?_)))
    refine uM rfl (uB (uAa rfl rfl) ?_)
    refine uA rfl (qM (zJ ?_))
    refine zT (x + 1) ⟨?_, by omega, by omega⟩ (by omega) ⟨rfl, rfl, congrArg some (zX (by omega)), rfl, trivial⟩ uI
    rw [← hx]
    conv => rhs; rw [scanUp, if_pos (by simp [ltFO, gu]; omega)]
   rw [scanUp, if_neg (by simp [ltFO, gu])] at hx
   rw [← hx]
   refine kJ (qQ (qQ (zI ?_)))
   refine qBd () (by omega) ⟨rfl, rfl, rfl, rfl, trivial⟩ uI
  rw [scanUp, if_neg (by simp; omega)] at hx
  rw [← hx]
  refine zU rfl rfl rfl rfl (zU rfl rfl rfl rfl (zU rfl rfl rfl rfl (zU rfl rfl rfl rfl (zU rfl rfl rfl rfl (zU rfl rfl rfl rfl (zU rfl rfl rfl rfl (zU rfl rfl rfl rfl ?_)))))))
  refine zU rfl rfl rfl rfl ?_
  refine uB (qZ rfl rfl) ?_
  refine qM (qK (zD rfl (kJ (qQ (qQ (zI ?_))))))
  refine qBd () (by omega) ⟨rfl, rfl, rfl, rfl, trivial⟩ uI
 rintro _ ⟨hi2a, hi2b⟩
 refine qDs (fun _ : Unit => [(0, .slice (some ⟨g, 0, none⟩) n c), (1, .int .i64 (a : Nat)), (10, .int .i64 ((i2 : Nat) : Int)), (11, .int .i64 ((j2 : Nat) : Int))]) (fun _ => [sl (some ⟨g, 0, none⟩) c 40 1 n (dCO (e)), q, R]) (fun _ => a ≤ j2 ∧ j2 ≤ j) ?_ ?_
 ·refine zL ?_
  refine qAj (fun x : Nat => [(0, .slice (some ⟨g, 0, none⟩) n c), (1, .int .i64 (a : Nat)), (10, .int .i64 ((i2 : Nat) : Int)), (11, .int .i64 ((x : Nat) : Int))]) (fun _ => [sl (some ⟨g, 0, none⟩) c 40 1 n (dCO (e)), q, R]) (fun x => x) (fun x => scanDown (fun x => !ltFO cf x (e)[a]!) (e) (i2) x = j2 ∧ a ≤ x ∧ x ≤ j) (j) ?_ ?_ ?_ ?_
  ·exact ⟨hj2, by omega, by omega⟩
  ·exact ⟨rfl, rfl, rfl, rfl, trivial⟩
  ·exact uI
  rintro x ⟨hx, hx1, hx2⟩
  refine qL (qL (qAw (by kernel_rfl) ?_))
  refine uM rfl (uM rfl (uB (y_le rfl rfl) ?_))
  refine uM rfl ?_
  refine qAl 118 rfl (fun sw => ?_) (fun sw => ?_)
  ·obtain ⟨x, rfl⟩ : ∃ k, x = k + 1 := ⟨x - 1, by omega⟩
   have f0 := qAh (e) (i := x + 1) (by omega) ((x + 1 : Nat) : Int).toNat (by omega)
   have f1 := qAh (e) (i := a) (by omega) ((a : Nat) : Int).toNat (by omega)
   have hcc := hc _ _ (hde.2 (x + 1) (by omega)) (hde.2 (a) (by omega))
   refine kQ rfl rfl (uM rfl (kQ rfl rfl (uM rfl (kQ rfl rfl (uB (uAj rfl rfl) ?_)))))
   refine kQ rfl rfl (uL ?_)
   refine kQ rfl rfl (uM rfl (kQ rfl rfl (uM rfl (kQ rfl rfl (uB (uAj rfl rfl) ?_)))))
   refine kQ rfl rfl (uL ?_)
   refine kQ rfl rfl (uX (hcc) rfl ?_)
   rintro _ _ ⟨rfl, rfl⟩
   simp only [uV, uW]
   refine kQ rfl rfl (uB (qBm rfl) ?_)
   refine uB (qY rfl rfl) ?_
   refine qM (qK ?_)
   refine qBe rfl (fun gw => ?_) (fun gw => ?_)
   ·refine zC (qK (zL (qJ ?_)))
    refine uM rfl (uB (uAs rfl rfl) ?_)
    refine uA rfl (qM (zJ ?_))
    refine zT (x) ⟨?_, by omega, by omega⟩ (by omega) ⟨rfl, rfl, rfl, congrArg some (zX (by omega)), trivial⟩ uI
    rw [← hx]
    conv => rhs; rw [scanDown, if_pos (by simp [ltFO, gw]; omega)]
   rw [scanDown, if_neg (by simp [ltFO, gw])] at hx
   rw [← hx]
   refine kJ (qQ (qQ (zI ?_)))
   refine qBd () (by omega) ⟨rfl, rfl, rfl, rfl, trivial⟩ uI
  have hx' : x = j2 := by
   rw [← hx]
   cases x with
   | zero => rfl
   | succ x => rw [scanDown, if_neg (by simp; omega)]
  rw [← hx']
  refine zU rfl rfl rfl rfl (zU rfl rfl rfl rfl (zU rfl rfl rfl rfl (zU rfl rfl rfl rfl (zU rfl rfl rfl rfl (zU rfl rfl rfl rfl (zU rfl rfl rfl rfl (zU rfl rfl rfl rfl ?_)))))))
  refine zU rfl rfl rfl rfl (zU rfl rfl rfl rfl ?_)
  refine uB (qZ rfl rfl) ?_
  refine qM (qK (zD rfl (kJ (qQ (qQ (zI ?_))))))
  refine qBd () (by omega) ⟨rfl, rfl, rfl, rfl, trivial⟩ uI
 rintro _ ⟨hj2a, hj2b⟩
 refine qL (qL (qJ (uM rfl (uM rfl (uB (y_gt rfl rfl) ?_)))))
 refine qM (qK ?_)
 refine zF rfl (fun h7 => ?_) (fun h7 => ?_)
 ·rw [if_pos (by omega)] at he
  subst he
  subst hr'
  have f6 := qAh e (i := a) (by omega) ((a : Int)).toNat (by omega)
  have f7 := qAh e (i := j2) (by omega) ((j2 : Int)).toNat (by omega)
  refine kJ (qQ (qBx rfl (qQ (zI (qK ?_)))))
  refine qL ?_
  refine qAo 13 ([sl (some ⟨g, 0, none⟩) c 40 1 n (dCO e), q]) [(15, [])] ?_ ?_
  ·exact uI
  refine uP 0 rfl (qC rfl) ?_
  refine uP 1 rfl (qC rfl) ?_
  refine uP 2 rfl (qC rfl) ?_
  refine uP 3 rfl (qC rfl) ?_
  refine uP 4 rfl (qC rfl) ?_
  refine uP 5 rfl (qC rfl) ?_
  refine uP 6 rfl (uAj rfl rfl) ?_
  refine uQ 7 rfl (uY) ?_
  refine uP 8 rfl (qC rfl) ?_
  refine uP 9 rfl (qC rfl) ?_
  refine uP 10 rfl (uAj rfl rfl) ?_
  refine uQ 11 rfl (uY) ?_
  refine uP 12 rfl (uAj rfl rfl) ?_
  apply qBo rfl (by kernel_rfl) rfl
  refine uJ ?_
  refine uE ?_
  refine uP 14 rfl (uAj rfl rfl) ?_
  apply qBn rfl (by kernel_rfl) (by kernel_rfl) rfl
  refine uJ ?_
  refine qK (qL (qJ (uM rfl (uA rfl (uA rfl (qM (qK (kC ?_))))))))
  simp only [zQ]
  rw [qCn e (i := j2) (j := a) (by omega) (by omega)]
  case ho => omega
  case ho' => omega
  exact uZ rfl (.tmp rfl (.tmp rfl .nil)) ⟨rfl, rfl, hde.swp (by omega) (by omega)⟩
 rw [if_neg (by omega)] at he
 have f6 := qAh e (i := i2) (by omega) ((i2 : Int)).toNat (by omega)
 have f7 := qAh e (i := j2) (by omega) ((j2 : Int)).toNat (by omega)
 refine zC (qK (qL ?_))
 refine qAo 13 ([sl (some ⟨g, 0, none⟩) c 40 1 n (dCO e), q]) [(15, [])] ?_ ?_
 ·exact uI
 refine uP 0 rfl (qC rfl) ?_
 refine uP 1 rfl (qC rfl) ?_
 refine uP 2 rfl (qC rfl) ?_
 refine uP 3 rfl (qC rfl) ?_
 refine uP 4 rfl (qC rfl) ?_
 refine uP 5 rfl (qC rfl) ?_
 refine uP 6 rfl (uAj rfl rfl) ?_
 refine uQ 7 rfl (uY) ?_
 refine uP 8 rfl (qC rfl) ?_
 refine uP 9 rfl (qC rfl) ?_
 refine uP 10 rfl (uAj rfl rfl) ?_
 refine uQ 11 rfl (uY) ?_
 refine uP 12 rfl (uAj rfl rfl) ?_
 apply qBo rfl (by kernel_rfl) rfl
 refine uJ ?_
 refine uE ?_
 refine uP 14 rfl (uAj rfl rfl) ?_
 apply qBn rfl (by kernel_rfl) (by kernel_rfl) rfl
 refine uJ ?_
 refine qK (qL (qJ (uM rfl (uB (uAa rfl rfl) ?_))))
 refine uA rfl (qM (qK (qJ (uM rfl (uB (uAs rfl rfl) ?_)))))
 refine uA rfl (qM (zJ ?_))
 simp only [zQ]
 rw [qCn e (i := i2) (j := j2) (by omega) (by omega)]
 case ho => omega
 case ho' => omega
 refine zT (ι := Nat × Nat × Array Nat) (j := (i2 + 1, j2 - 1, swp e i2 j2)) ⟨he, hde.swp (by omega) (by omega), by show a < i2 + 1; omega, by show a ≤ j2 - 1; omega, by show i2 + 1 ≤ j2 - 1 + 2; omega, by show j2 - 1 < b; omega⟩ (by show j2 - 1 + 1 - (i2 + 1) < j + 1 - i; omega) ⟨rfl, rfl, congrArg some (zX (by simp only; omega)), congrArg some (zX (by simp only; omega)), trivial⟩ uI
end
end Go.Proofs.YtddfnkijolfhbaaGreat
