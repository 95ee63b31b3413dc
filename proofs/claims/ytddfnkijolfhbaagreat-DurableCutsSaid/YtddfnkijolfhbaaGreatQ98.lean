import Derived.Test.YtddfnkijolfhbaaGreatQ05
import Derived.Test.YtddfnkijolfhbaaGreatQ17
import Derived.Test.YtddfnkijolfhbaaGreatQ60
import Derived.Laws.Bits64
import Derived.Sort.AssemblyPlain
import Derived.Sort.LotD5
set_option linter.all false
set_option maxHeartbeats 1000000
namespace Go.Proofs.YtddfnkijolfhbaaGreat
open Go Go.RowKit Sl Eg
set_option maxRecDepth 10000
section
variable {E : Env}
variable {ts : Nat → List UInt8}
def dCT (ts : Nat → List UInt8) (d : Array Nat) : List Value := d.toList.map fun x => .string ⟨⟨ts x⟩⟩
theorem dC_lenT (d : Array Nat) : (dCT ts d).length = d.size := by simp [dCT]
theorem qAi (d : Array Nat) {i : Nat} (h : i < d.size) (o : Nat) (ho : o = i) : (dCT ts d)[o]? = some (.string ⟨⟨ts d[i]!⟩⟩) := by
 subst ho
 simp [dCT, h]
theorem qZz (d : Array Nat) {i : Nat} (h : i < d.size) (x o : Nat) (ho : o = i) : zY (dCT ts d) o [.string ⟨⟨ts x⟩⟩] = dCT ts (d.setIfInBounds i x) := by
 subst ho
 rw [qHp _ _ _ (by rw [dC_lenT]; simp; omega)]
 apply List.ext_getElem?
 intro k
 simp only [dCT, Array.toList_setIfInBounds, List.length_singleton]
 rw [List.map_set]
 rw [List.set_eq_take_append_cons_drop]
 simp [h]
theorem qCo (d : Array Nat) {i j : Nat} (hi : i < d.size) (hj : j < d.size) (o o' : Nat) (ho : o = i) (ho' : o' = j) : zY (zY (dCT ts d) o [.string ⟨⟨ts d[j]!⟩⟩]) o' [.string ⟨⟨ts d[i]!⟩⟩] = dCT ts (Go.Sort.swp d i j) := by
 rw [qZz (ts := ts) d hi _ o ho, qZz (ts := ts) _ (by simpa using hj) _ o' ho']
 rfl
def OkDT (ok : Nat → Prop) (n : Nat) (d : Array Nat) : Prop := d.size = n ∧ ∀ i, i < n → ok d[i]!
theorem OkDT.swp {ok : Nat → Prop} {n : Nat} {d : Array Nat} (h : OkDT ok n d) {i j : Nat} (hi : i < n) (hj : j < n) : OkDT ok n (Go.Sort.swp d i j) := by
 obtain ⟨hs, ho⟩ := h
 refine ⟨by simp [Go.Sort.swp, hs], fun k hk => ?_⟩
 have ki : k < d.size := by omega
 simp only [Go.Sort.swp]
 have e : ((d.setIfInBounds i d[j]!).setIfInBounds j d[i]!)[k]! = if j = k then d[i]! else if i = k then d[j]! else d[k]! := by
  rw [getElem!_pos _ k (by simpa using ki), Array.getElem_setIfInBounds (by simpa using ki)]
  split
  ·rfl
  rw [Array.getElem_setIfInBounds ki]
  split
  ·rfl
  rw [getElem!_pos d k ki]
 rw [e]
 split
 ·exact ho i hi
 split
 ·exact ho j hj
 exact ho k hk
variable {q : HP} {ok : Nat → Prop} {cf : Nat → Nat → Int} {g c n : Nat}
def CmpT (E : Env) (ts : Nat → List UInt8) (q : HP) (ok : Nat → Prop) (cf : Nat → Nat → Int) : Prop := ∀ x y, ok x → ok y → Ct E 108 [.string ⟨⟨ts x⟩⟩, .string ⟨⟨ts y⟩⟩] [q] (fun v Q => v = .bool (decide (cf x y < 0)) ∧ Q = [q])
theorem qIq : ∀ (a b : List UInt8), Op.bytesLess a b = decide (cmpT a b < 0)
 | [], [] => rfl
 | [], b :: B => rfl
 | a :: A, [] => rfl
 | a :: A, b :: B => by
  unfold Op.bytesLess cmpT
  rw [qIq A B]
  by_cases h1 : a.toNat < b.toNat
  ·have : a < b := UInt8.lt_iff_toNat_lt.2 h1
   rw [if_pos h1]
   simp [this]
  have h1' : ¬ a < b := fun h => h1 (UInt8.lt_iff_toNat_lt.1 h)
  rw [if_neg h1]
  by_cases h2 : b.toNat < a.toNat
  ·rw [if_pos h2]
   have : ¬ a = b := fun e => by rw [e] at h2; omega
   simp [h1', this]
  rw [if_neg h2]
  have : a = b := UInt8.toNat_inj.1 (by omega)
  subst this
  simp
theorem qZn (hE : Seat E) {a : List UInt8} : Ct E 145 [.string ⟨⟨a⟩⟩] [] (fun v Q => v = .bool false ∧ Q = []) := by
 refine zP (hE.fn Tryz.func145) rfl rfl rfl (fun R => ?_)
 simp only [qAe, uV, uW]
 refine qL (qJ (uA rfl (qM (qK (qL (qJ (uM rfl (uM rfl (uB (qRb rfl rfl) ?_)))))))))
 refine uA rfl (qM (qK (kC ?_)))
 exact uZ rfl (.tmp rfl .nil) ⟨congrArg Value.bool (by simp), rfl⟩
theorem ct_lessT (hE : Seat E) {a b : List UInt8} : Ct E 108 [.string ⟨⟨a⟩⟩, .string ⟨⟨b⟩⟩] [] (fun v Q => v = .bool (decide (cmpT a b < 0)) ∧ Q = []) := by
 refine zP (hE.fn Tryz.func108) rfl rfl rfl (fun R => ?_)
 simp only [qAe, uV, uW]
 refine qL (qJ (uA rfl (qM (qK (qL (qJ (uM rfl (uX (qZn hE) rfl ?_))))))))
 rintro _ _ ⟨rfl, rfl⟩
 simp only [uV, uW]
 refine uM rfl ?_
 refine zU rfl rfl rfl rfl (zU rfl rfl rfl rfl (zU rfl rfl rfl rfl ?_))
 refine uB (qZ rfl rfl) ?_
 refine uM rfl (kQ rfl rfl (uM rfl (kQ rfl rfl (uM rfl (kQ rfl rfl (uB (y_lt_str rfl rfl) ?_))))))
 refine uB (qZ rfl rfl) ?_
 refine uA rfl (qM (qK (kC ?_)))
 exact uZ rfl (.tmp rfl .nil) ⟨congrArg Value.bool (qIq a b), rfl⟩
def cfT (ts : Nat → List UInt8) (x y : Nat) : Int := cmpT (ts x) (ts y)
theorem cmpTs (hE : Seat E) {q : HP} {ok : Nat → Prop} : CmpT E ts q ok (cfT ts) := fun x y _ _ R w hs => ((ct_lessT (a := ts x) (b := ts y) hE) (qAd [q, R]) w (hs.imp fun k h => qCt (l := []) h)).mono fun e w' ⟨v, Qs, h1, ⟨h2, h3⟩, h4⟩ => ⟨v, [q], h1, ⟨h2, rfl⟩, by rw [h3] at h4; exact h4.imp fun k h => qEl (l := []) h⟩
def ltFT (cf : Nat → Nat → Int) (x y : Nat) : Bool := decide (cf x y < 0)
theorem qJw (hE : Seat E) (hc : CmpT E ts q ok cf) {d : Array Nat} (hd : OkDT ok n d) {a b sw k : Nat} (ha : a < n) (hb : b < n) (hk : k < 1000) :
  Ct E 157 [.slice (some ⟨g, 0, none⟩) n c, .int .i64 (a : Nat), .int .i64 (b : Nat), uPt sw] [cells sw [.int .i64 (k : Nat)] 3, sl (some ⟨g, 0, none⟩) c 9 1 n (dCT ts d), q]
   (fun v Q => v = .tuple #[.int .i64 ((Go.Sort.order2 (ltFT cf) d a b k).1 : Nat), .int .i64 ((Go.Sort.order2 (ltFT cf) d a b k).2.1 : Nat)] ∧ Q = [cells sw [.int .i64 ((Go.Sort.order2 (ltFT cf) d a b k).2.2 : Nat)] 3, sl (some ⟨g, 0, none⟩) c 9 1 n (dCT ts d), q]) := by
 have hs := hd.1
 have f0 := qAi (ts := ts) d (i := b) (by omega) ((b : Int)).toNat (by omega)
 have f1 := qAi (ts := ts) d (i := a) (by omega) ((a : Int)).toNat (by omega)
 have hcc := hc _ _ (hd.2 b hb) (hd.2 a ha)
 refine zP (hE.fn Tryz.func157) rfl rfl rfl (fun R => ?_)
 simp only [qAe, uV, uW]
 refine qL (qJ (uA rfl (uA rfl ?_)))
 refine qM (qK (qL (qL (qAw (by kernel_rfl) ?_))))
 refine uM rfl (uM rfl (uB (uAj rfl rfl) ?_))
 refine uL ?_
 refine uM rfl (uM rfl (uB (uAj rfl rfl) ?_))
 refine uL ?_
 refine uX (hcc) rfl ?_
 rintro _ _ ⟨rfl, rfl⟩
 simp only [uV, uW]
 refine qM (qK ?_)
 refine zF rfl (fun h1 => ?_) (fun h1 => ?_)
 ·have e : Go.Sort.order2 (ltFT cf) d a b k = (b, a, k + 1) := by unfold Go.Sort.order2; rw [if_pos (by simp [ltFT, h1])]
  rw [e]
  refine qL (qJ (uM rfl (uB (zB rfl) ?_)))
  refine uL ?_
  refine uB (uAa rfl rfl) ?_
  refine l_eq 22 (.int .i64 ((k + 1 : Nat) : Int)) rfl (zX (by omega)) ?_
  refine uB (zB rfl) ?_
  refine uU (uS ?_)
  refine qM (qK (qL (qJ (uM rfl (uM rfl (uA rfl (uA rfl (qM (qK (kC (qX ?_)))))))))))
  exact uZ rfl (.tmp rfl (.tmp rfl .nil)) ⟨rfl, rfl⟩
 have e : Go.Sort.order2 (ltFT cf) d a b k = (a, b, k) := by unfold Go.Sort.order2; rw [if_neg (by simp [ltFT, h1])]
 rw [e]
 refine zC (qK (qL (qJ (uM rfl (uM rfl (uA rfl (uA rfl (qM (qK (kC ?_))))))))))
 exact uZ rfl (.tmp rfl (.tmp rfl .nil)) ⟨rfl, rfl⟩
open Go.Sort in
theorem qFp {lt : Nat → Nat → Bool} {d : Array Nat} {a b k m : Nat} (ha : a < m) (hb : b < m) : (order2 lt d a b k).1 < m ∧ (order2 lt d a b k).2.1 < m ∧ (order2 lt d a b k).2.2 ≤ k + 1 := by
 unfold order2
 split
 ·exact ⟨hb, ha, Nat.le_refl _⟩
 exact ⟨ha, hb, Nat.le_succ _⟩
open Go.Sort in
theorem qKc {lt : Nat → Nat → Bool} {d : Array Nat} {a b e k m : Nat} (ha : a < m) (hb : b < m) (he : e < m) : (median lt d a b e k).1 < m ∧ (median lt d a b e k).2 ≤ k + 3 := by
 have h1 := qFp (lt := lt) (d := d) (k := k) ha hb
 have h2 := qFp (lt := lt) (d := d) (k := (order2 lt d a b k).2.2) h1.2.1 he
 have h3 := qFp (lt := lt) (d := d) (k := (order2 lt d (order2 lt d a b k).2.1 e (order2 lt d a b k).2.2).2.2) h1.1 h2.1
 unfold median
 exact ⟨h3.2.1, by simp only; omega⟩
theorem qJu (hE : Seat E) (hc : CmpT E ts q ok cf) {d : Array Nat} (hd : OkDT ok n d) {a b e sw k : Nat} (ha : a < n) (hb : b < n) (he : e < n) (hk : k < 900) :
  Ct E 144 [.slice (some ⟨g, 0, none⟩) n c, .int .i64 (a : Nat), .int .i64 (b : Nat), .int .i64 (e : Nat), uPt sw] [cells sw [.int .i64 (k : Nat)] 3, sl (some ⟨g, 0, none⟩) c 9 1 n (dCT ts d), q]
   (fun v Q => v = .int .i64 ((Go.Sort.median (ltFT cf) d a b e k).1 : Nat) ∧ Q = [cells sw [.int .i64 ((Go.Sort.median (ltFT cf) d a b e k).2 : Nat)] 3, sl (some ⟨g, 0, none⟩) c 9 1 n (dCT ts d), q]) := by
 have h1 := qFp (lt := ltFT cf) (d := d) (k := k) ha hb
 have h2 := qFp (lt := ltFT cf) (d := d) (k := (Go.Sort.order2 (ltFT cf) d a b k).2.2) h1.2.1 he
 unfold Go.Sort.median
 simp only
 refine zP (hE.fn Tryz.func144) rfl rfl rfl (fun R => ?_)
 simp only [qAe, uV, uW]
 refine qL (qJ (uA rfl (qM (qK (qL (qJ (uM rfl (uM rfl (uM rfl (uM rfl ?_))))))))))
 refine uX (qJw (k := k) hE hc hd ha hb (by omega)) rfl ?_
 rintro _ _ ⟨rfl, rfl⟩
 simp only [uV, uW]
 refine uM rfl (uB (qV rfl rfl) (uB (qV rfl rfl) (uA rfl (uA rfl (qM (qK (qL (qJ (uM rfl (uM rfl (uM rfl (uM rfl ?_))))))))))))
 refine uX (qJw (k := (Go.Sort.order2 (ltFT cf) d a b k).2.2) hE hc hd h1.2.1 he (by omega)) rfl ?_
 rintro _ _ ⟨rfl, rfl⟩
 simp only [uV, uW]
 refine uM rfl (uB (qV rfl rfl) (uB (qV rfl rfl) (uA rfl (uA rfl (qM (qK (qL (qJ (uM rfl (uM rfl (uM rfl (uM rfl ?_))))))))))))
 refine uX (qJw (k := (Go.Sort.order2 (ltFT cf) d (Go.Sort.order2 (ltFT cf) d a b k).2.1 e (Go.Sort.order2 (ltFT cf) d a b k).2.2).2.2) hE hc hd h1.1 h2.1 (by omega)) rfl ?_
 rintro _ _ ⟨rfl, rfl⟩
 simp only [uV, uW]
 refine uM rfl (uB (qV rfl rfl) (uB (qV rfl rfl) (uA rfl (uA rfl (qM (qK (qL (qJ (uM rfl (uA rfl ?_))))))))))
 refine qM (qK (kC ?_))
 exact uZ rfl (.tmp rfl .nil) ⟨rfl, rfl⟩
theorem qDl (hE : Seat E) (hc : CmpT E ts q ok cf) {d : Array Nat} (hd : OkDT ok n d) {a sw k : Nat} (ha : a + 1 < n) (h1 : 1 ≤ a) (hn : n < 1099511627776) (hk : k < 900) :
  Ct E 143 [.slice (some ⟨g, 0, none⟩) n c, .int .i64 (a : Nat), uPt sw] [cells sw [.int .i64 (k : Nat)] 3, sl (some ⟨g, 0, none⟩) c 9 1 n (dCT ts d), q]
   (fun v Q => v = .int .i64 ((Go.Sort.medianAdjacent (ltFT cf) d a k).1 : Nat) ∧ Q = [cells sw [.int .i64 ((Go.Sort.medianAdjacent (ltFT cf) d a k).2 : Nat)] 3, sl (some ⟨g, 0, none⟩) c 9 1 n (dCT ts d), q]) := by
 unfold Go.Sort.medianAdjacent
 refine zP (hE.fn Tryz.func143) rfl rfl rfl (fun R => ?_)
 simp only [qAe, uV, uW]
 refine qL (qJ (uA rfl (qM (qK (qL (qJ (uM rfl (uM rfl (uB (uAs rfl rfl) ?_)))))))))
 refine uM rfl (uM rfl (uB (uAa rfl rfl) ?_))
 refine uM rfl ?_
 refine l_eq 9 (.int .i64 ((a - 1 : Nat) : Int)) rfl (zX (by omega)) ?_
 refine l_eq 12 (.int .i64 ((a + 1 : Nat) : Int)) rfl (zX (by omega)) ?_
 refine uX (qJu (a := a - 1) (b := a) (e := a + 1) (k := k) hE hc hd (by omega) (by omega) ha hk) rfl ?_
 rintro _ _ ⟨rfl, rfl⟩
 simp only [uV, uW]
 refine uA rfl (qM (qK (kC ?_)))
 exact uZ rfl (.tmp rfl .nil) ⟨rfl, rfl⟩
def qOo : Go.Sort.Hint → Nat
 | .unknown => 0
 | .increasing => 1
 | .decreasing => 2
theorem qLy (hE : Seat E) (hc : CmpT E ts q ok cf) {d : Array Nat} (hd : OkDT ok n d) {a b : Nat} (hab : a + 12 < b) (hb : b ≤ n) (hn : n < 1099511627776) :
  Ct E 105 [.slice (some ⟨g, 0, none⟩) n c, .int .i64 (a : Nat), .int .i64 (b : Nat)] [sl (some ⟨g, 0, none⟩) c 9 1 n (dCT ts d), q]
   (fun v Q => v = .tuple #[.int .i64 ((Go.Sort.choosePivot (ltFT cf) d a b).1 : Nat), .int .i64 (qOo (Go.Sort.choosePivot (ltFT cf) d a b).2 : Nat)] ∧ Q = [sl (some ⟨g, 0, none⟩) c 9 1 n (dCT ts d), q]) := by
 refine zP (hE.fn Tryz.func105) rfl rfl rfl (fun R => ?_)
 simp only [qAe, uV, uW]
 refine qL (qJ (uA rfl (uA rfl (qM (qK (qL (qJ (uM rfl (uM rfl (uB (uAs rfl rfl) ?_))))))))))
 refine uA rfl (qM (qK ?_))
 obtain ⟨l, hl⟩ : ∃ l, l = b - a := ⟨_, rfl⟩
 obtain ⟨i, hi⟩ : ∃ i, i = a + l / 4 * 1 := ⟨_, rfl⟩
 obtain ⟨j, hj⟩ : ∃ j, j = a + l / 4 * 2 := ⟨_, rfl⟩
 obtain ⟨m, hm⟩ : ∃ m, m = a + l / 4 * 3 := ⟨_, rfl⟩
 refine w_eq 8 (.int .i64 ((l : Nat) : Int)) rfl (zX (by omega)) ?_
 refine qL (qJ (uU (kG (hE.t rfl) (fun b9 => ?_))))
 refine qM (qK (qL (qJ (uM rfl (uM rfl (uB (qHe rfl rfl (by omega) (by omega) (by omega)) ?_))))))
 refine uB (qJn rfl rfl (by omega) (by omega)) ?_
 refine uB (uAa rfl rfl) ?_
 refine uA rfl (qM (qK (qL (qJ (uM rfl (uM rfl (uB (qHe rfl rfl (by omega) (by omega) (by omega)) ?_)))))))
 refine uB (qJn rfl rfl (by omega) (by omega)) ?_
 refine uB (uAa rfl rfl) ?_
 refine uA rfl (qM (qK (qL (qJ (uM rfl (uM rfl (uB (qHe rfl rfl (by omega) (by omega) (by omega)) ?_)))))))
 refine uB (qJn rfl rfl (by omega) (by omega)) ?_
 refine uB (uAa rfl rfl) ?_
 refine uA rfl (qM (qK ?_))
 refine w_eq 10 (.int .i64 ((i : Nat) : Int)) rfl (zX (by omega)) ?_
 refine w_eq 11 (.int .i64 ((j : Nat) : Int)) rfl (zX (by omega)) ?_
 refine w_eq 12 (.int .i64 ((m : Nat) : Int)) rfl (zX (by omega)) ?_
 refine qL (qL (qJ (uM rfl (uB (y_ge rfl rfl) ?_))))
 refine qM (qK ?_)
 refine zF rfl (fun h8 => ?_) (fun h8 => ?_)
 ·have hh : ∀ r : Nat × Nat, (if l ≥ 50 then Go.Sort.median (ltFT cf) d (Go.Sort.medianAdjacent (ltFT cf) d i 0).1 (Go.Sort.medianAdjacent (ltFT cf) d j (Go.Sort.medianAdjacent (ltFT cf) d i 0).2).1 (Go.Sort.medianAdjacent (ltFT cf) d m (Go.Sort.medianAdjacent (ltFT cf) d j (Go.Sort.medianAdjacent (ltFT cf) d i 0).2).2).1 (Go.Sort.medianAdjacent (ltFT cf) d m (Go.Sort.medianAdjacent (ltFT cf) d j (Go.Sort.medianAdjacent (ltFT cf) d i 0).2).2).2 else Go.Sort.median (ltFT cf) d i j m 0) = r → Go.Sort.choosePivot (ltFT cf) d a b = (r.1, if r.2 = 0 then .increasing else if r.2 = 12 then .decreasing else .unknown) := by
   intro r hr
   subst hr
   unfold Go.Sort.choosePivot
   simp only [← hl, ← hi, ← hj, ← hm, if_pos (show l ≥ 8 by omega)]
  refine qL (qL (qJ (uM rfl (uB (y_ge rfl rfl) ?_))))
  refine qM (qK ?_)
  refine zF rfl (fun h50 => ?_) (fun h50 => ?_)
  ·rw [if_pos (show l ≥ 50 by omega)] at hh
   refine qL (qJ (uM rfl (uM rfl (uX (qDl (a := i) (k := 0) hE hc hd (by omega) (by omega) hn (by omega)) rfl ?_))))
   rintro _ _ ⟨rfl, rfl⟩
   simp only [uV, uW]
   refine uA rfl (qM (qK (qL (qJ (uM rfl (uM rfl ?_))))))
   have c1 := (qKc (lt := ltFT cf) (d := d) (a := i - 1) (b := i) (e := i + 1) (k := 0) (m := n) (by omega) (by omega) (by omega))
   have c1' : (Go.Sort.medianAdjacent (ltFT cf) d i 0).1 < n ∧ (Go.Sort.medianAdjacent (ltFT cf) d i 0).2 ≤ 0 + 3 := c1
   refine uX (qDl (a := j) (k := (Go.Sort.medianAdjacent (ltFT cf) d i 0).2) hE hc hd (by omega) (by omega) hn (by omega)) rfl ?_
   rintro _ _ ⟨rfl, rfl⟩
   simp only [uV, uW]
   refine uA rfl (qM (qK (qJ (uM rfl (uM rfl ?_)))))
   have c2 := (qKc (lt := ltFT cf) (d := d) (a := j - 1) (b := j) (e := j + 1) (k := (Go.Sort.medianAdjacent (ltFT cf) d i 0).2) (m := n) (by omega) (by omega) (by omega))
   have c2' : (Go.Sort.medianAdjacent (ltFT cf) d j (Go.Sort.medianAdjacent (ltFT cf) d i 0).2).1 < n ∧ (Go.Sort.medianAdjacent (ltFT cf) d j (Go.Sort.medianAdjacent (ltFT cf) d i 0).2).2 ≤ (Go.Sort.medianAdjacent (ltFT cf) d i 0).2 + 3 := c2
   refine uX (qDl (a := m) (k := (Go.Sort.medianAdjacent (ltFT cf) d j (Go.Sort.medianAdjacent (ltFT cf) d i 0).2).2) hE hc hd (by omega) (by omega) hn (by omega)) rfl ?_
   rintro _ _ ⟨rfl, rfl⟩
   simp only [uV, uW]
   refine uA rfl (qM (qK (qJ (uM rfl (uM rfl (uM rfl (uM rfl ?_)))))))
   have c3 := (qKc (lt := ltFT cf) (d := d) (a := m - 1) (b := m) (e := m + 1) (k := (Go.Sort.medianAdjacent (ltFT cf) d j (Go.Sort.medianAdjacent (ltFT cf) d i 0).2).2) (m := n) (by omega) (by omega) (by omega))
   have c3' : (Go.Sort.medianAdjacent (ltFT cf) d m (Go.Sort.medianAdjacent (ltFT cf) d j (Go.Sort.medianAdjacent (ltFT cf) d i 0).2).2).1 < n ∧ (Go.Sort.medianAdjacent (ltFT cf) d m (Go.Sort.medianAdjacent (ltFT cf) d j (Go.Sort.medianAdjacent (ltFT cf) d i 0).2).2).2 ≤ (Go.Sort.medianAdjacent (ltFT cf) d j (Go.Sort.medianAdjacent (ltFT cf) d i 0).2).2 + 3 := c3
   clear c1 c2 c3
   generalize Go.Sort.medianAdjacent (ltFT cf) d m (Go.Sort.medianAdjacent (ltFT cf) d j (Go.Sort.medianAdjacent (ltFT cf) d i 0).2).2 = r3 at *
   generalize Go.Sort.medianAdjacent (ltFT cf) d j (Go.Sort.medianAdjacent (ltFT cf) d i 0).2 = r2 at *
   generalize Go.Sort.medianAdjacent (ltFT cf) d i 0 = r1 at *
   refine uX (qJu (a := r1.1) (b := r2.1) (e := r3.1) (k := r3.2) hE hc hd c1'.1 c2'.1 c3'.1 (by omega)) rfl ?_
   rintro _ _ ⟨rfl, rfl⟩
   simp only [uV, uW]
   generalize Go.Sort.median (ltFT cf) d r1.1 r2.1 r3.1 r3.2 = r at *
   rw [hh r rfl]
   refine uA rfl (qM (qK (qL (qJ (uL ?_)))))
   refine qM (qK (zL (qL (qJ (uB (y_eq rfl rfl) ?_)))))
   refine uA rfl (qM (qK ?_))
   refine zF rfl (fun g0 => ?_) (fun g0 => ?_)
   ·rw [if_pos (by omega)]
    refine qL (qJ (uM rfl (uA rfl (uA rfl (qM (qK (kC (zO ?_))))))))
    exact uZ rfl (.tmp rfl (.tmp rfl .nil)) ⟨rfl, rfl⟩
   rw [if_neg (by omega)]
   refine qL (qJ (uB (y_eq rfl rfl) ?_))
   refine uA rfl (qM (qK ?_))
   refine zF rfl (fun g1 => ?_) (fun g1 => ?_)
   ·rw [if_pos (by omega)]
    refine qL (qJ (uM rfl (uA rfl (uA rfl (qM (qK (kC (zO ?_))))))))
    exact uZ rfl (.tmp rfl (.tmp rfl .nil)) ⟨rfl, rfl⟩
   rw [if_neg (by omega)]
   refine qL (qJ (uM rfl (uA rfl (uA rfl (qM (qK (kC (zO ?_))))))))
   exact uZ rfl (.tmp rfl (.tmp rfl .nil)) ⟨rfl, rfl⟩
  rw [if_neg (show ¬ l ≥ 50 by omega)] at hh
  refine zC (qK (qJ (uM rfl (uM rfl (uM rfl (uM rfl ?_))))))
  refine uX (qJu (a := i) (b := j) (e := m) (k := 0) hE hc hd (by omega) (by omega) (by omega) (by omega)) rfl ?_
  rintro _ _ ⟨rfl, rfl⟩
  simp only [uV, uW]
  generalize Go.Sort.median (ltFT cf) d i j m 0 = r at *
  rw [hh r rfl]
  refine uA rfl (qM (qK (qL (qJ (uL ?_)))))
  refine qM (qK (zL (qL (qJ (uB (y_eq rfl rfl) ?_)))))
  refine uA rfl (qM (qK ?_))
  refine zF rfl (fun g0 => ?_) (fun g0 => ?_)
  ·rw [if_pos (by omega)]
   refine qL (qJ (uM rfl (uA rfl (uA rfl (qM (qK (kC (zO ?_))))))))
   exact uZ rfl (.tmp rfl (.tmp rfl .nil)) ⟨rfl, rfl⟩
  rw [if_neg (by omega)]
  refine qL (qJ (uB (y_eq rfl rfl) ?_))
  refine uA rfl (qM (qK ?_))
  refine zF rfl (fun g1 => ?_) (fun g1 => ?_)
  ·rw [if_pos (by omega)]
   refine qL (qJ (uM rfl (uA rfl (uA rfl (qM (qK (kC (zO ?_))))))))
   exact uZ rfl (.tmp rfl (.tmp rfl .nil)) ⟨rfl, rfl⟩
  rw [if_neg (by omega)]
  refine qL (qJ (uM rfl (uA rfl (uA rfl (qM (qK (kC (zO ?_))))))))
  exact uZ rfl (.tmp rfl (.tmp rfl .nil)) ⟨rfl, rfl⟩
 exfalso; omega
end
section
variable {E : Env}
variable {ts : Nat → List UInt8} {q : HP} {ok : Nat → Prop} {cf : Nat → Nat → Int} {g c n : Nat}
open Go.Sort in
theorem qLd (hE : Seat E) {d : Array Nat} (hd : OkDT ok n d) {a b : Nat} (hab : a < b) (hb : b ≤ n) (hn : n < 1099511627776) :
  Ct E 106 [.slice (some ⟨g, 0, none⟩) n c, .int .i64 (a : Nat), .int .i64 (b : Nat)] [sl (some ⟨g, 0, none⟩) c 9 1 n (dCT ts d), q]
   (fun v Q => v = .tuple #[] ∧ Q = [sl (some ⟨g, 0, none⟩) c 9 1 n (dCT ts (reverseRange d a b)), q] ∧ OkDT ok n (reverseRange d a b)) := by
 refine zP (hE.fn Tryz.func106) rfl rfl rfl (fun R => ?_)
 simp only [qAe, uV, uW]
 refine qL (qJ (uM rfl (uA rfl (qM (qK (qL (qJ (uM rfl (uB (uAs rfl rfl) ?_)))))))))
 refine uA rfl (qM (qK (zL ?_)))
 refine qAj (fun x : Nat × Nat × Array Nat => [(0, .slice (some ⟨g, 0, none⟩) n c), (6, .int .i64 (x.1 : Nat)), (7, .int .i64 (x.2.1 : Nat))]) (fun x => [sl (some ⟨g, 0, none⟩) c 9 1 n (dCT ts x.2.2), q, R]) (fun x => x.2.1 - x.1) (fun x => reverseLoop x.1 x.2.1 x.2.2 = reverseRange d a b ∧ OkDT ok n x.2.2 ∧ x.2.1 < n ∧ x.1 ≤ n) (a, b - 1, d) ?_ ?_ ?_ ?_
 ·exact ⟨rfl, hd, by show b - 1 < n; omega, by show a ≤ n; omega⟩
 ·exact ⟨rfl, rfl, congrArg some (zX (by simp only; omega)), trivial⟩
 ·exact uI
 rintro ⟨i, j, e⟩ ⟨he, hd', hj, hi⟩
 simp only at he hd' hj hi ⊢
 have hs := hd'.1
 refine qL (qL (qJ (uM rfl (uM rfl (uB (y_lt rfl rfl) ?_)))))
 refine qM (qK ?_)
 refine zF rfl (fun h1 => ?_) (fun h1 => ?_)
 ·have f0 := qAi (ts := ts) e (i := i) (by omega) ((i : Int)).toNat (by omega)
  have f1 := qAi (ts := ts) e (i := j) (by omega) ((j : Int)).toNat (by omega)
  refine zC (qK (zL (qL ?_)))
  refine qAo 13 ([sl (some ⟨g, 0, none⟩) c 9 1 n (dCT ts e), q]) [(15, [])] ?_ ?_
  ·exact uI
  refine uP 0 rfl (qC rfl) ?_
  refine uP 1 rfl (qC rfl) ?_
  refine uP 2 rfl (qC rfl) ?_
  refine uP 3 rfl (qC rfl) ?_
  refine uP 4 rfl (qC rfl) ?_
  refine uP 5 rfl (qC rfl) ?_
  refine uP 6 rfl (uAj rfl rfl) ?_
  refine uQ 7 rfl (uY) ?_
  refine uP 8 rfl (qC rfl) ?_
  refine uP 9 rfl (qC rfl) ?_
  refine uP 10 rfl (uAj rfl rfl) ?_
  refine uQ 11 rfl (uY) ?_
  refine uP 12 rfl (uAj rfl rfl) ?_
  apply qBo rfl (by kernel_rfl) rfl
  refine uJ ?_
  refine uE ?_
  refine uP 14 rfl (uAj rfl rfl) ?_
  apply qBn rfl (by kernel_rfl) (by kernel_rfl) rfl
  refine uJ ?_
  refine qK (qL (qJ (uM rfl (uB (uAa rfl rfl) ?_))))
  refine uA rfl (qM (qK (qJ (uM rfl (uB (uAs rfl rfl) ?_)))))
  refine uA rfl (qM (zJ ?_))
  simp only [zQ]
  rw [qCo (ts := ts) e (i := i) (j := j) (by omega) (by omega)]
  case ho => omega
  case ho' => omega
  refine zT (ι := Nat × Nat × Array Nat) (j := (i + 1, j - 1, swp e i j)) ⟨?_, hd'.swp (by omega) hj, by show j - 1 < n; omega, by show i + 1 ≤ n; omega⟩ (by show j - 1 - (i + 1) < j - i; omega) ⟨rfl, rfl, ?_, trivial⟩ uI
  ·rw [← he]
   conv => rhs; rw [reverseLoop, if_pos (show i < j by omega)]
  exact congrArg some (zX (by simp only; omega))
 rw [reverseLoop, if_neg (show ¬ i < j by omega)] at he
 subst he
 refine kJ (qQ (qQ (zI ?_)))
 exact uZe rfl .nil ⟨rfl, rfl, hd'⟩
open Go.Sort in
theorem qJs (hE : Seat E) (hc : CmpT E ts q ok cf) {d : Array Nat} (hd : OkDT ok n d) {a b : Nat} (hab : a ≤ b) (hb : b ≤ n) (hn : n < 1099511627776) :
  Ct E 102 [.slice (some ⟨g, 0, none⟩) n c, .int .i64 (a : Nat), .int .i64 (b : Nat)] [sl (some ⟨g, 0, none⟩) c 9 1 n (dCT ts d), q]
   (fun v Q => v = .tuple #[] ∧ Q = [sl (some ⟨g, 0, none⟩) c 9 1 n (dCT ts (insertionSort (ltFT cf) d a b)), q] ∧ OkDT ok n (insertionSort (ltFT cf) d a b)) := by
 refine zP (hE.fn Tryz.func102) rfl rfl rfl (fun R => ?_)
 simp only [qAe, uV, uW]
 refine qL (qJ (uM rfl (uB (uAa rfl rfl) ?_)))
 refine uA rfl (qM (qK (zL ?_)))
 refine qAj (fun x : Nat × Array Nat => [(0, .slice (some ⟨g, 0, none⟩) n c), (1, .int .i64 (a : Nat)), (2, .int .i64 (b : Nat)), (6, .int .i64 (x.1 : Nat))]) (fun x => [sl (some ⟨g, 0, none⟩) c 9 1 n (dCT ts x.2), q, R]) (fun x => b - x.1) (fun x => insOuter (ltFT cf) a b x.1 x.2 = insertionSort (ltFT cf) d a b ∧ OkDT ok n x.2 ∧ a + 1 ≤ x.1 ∧ x.1 ≤ n + 1) (a + 1, d) ?_ ?_ ?_ ?_
 ·exact ⟨rfl, hd, Nat.le_refl _, by show a + 1 ≤ n + 1; omega⟩
 ·exact ⟨rfl, rfl, rfl, congrArg some (zX (by simp only; omega)), trivial⟩
 ·exact uI
 rintro ⟨i, e⟩ ⟨he, hd', hi, hi2⟩
 simp only at he hd' hi hi2 ⊢
 refine qL (qL (qJ (uM rfl (uM rfl (uB (y_lt rfl rfl) ?_)))))
 refine qM (qK ?_)
 refine zF rfl (fun h1 => ?_) (fun h1 => ?_)
 ·rw [insOuter, if_pos (show i < b by omega)] at he
  refine zC (qK (qL (zL (qL (qJ (uM rfl (uA rfl (qM (qK (zL ?_))))))))))
  refine qAj (fun x : Nat × Array Nat => [(0, .slice (some ⟨g, 0, none⟩) n c), (1, .int .i64 (a : Nat)), (2, .int .i64 (b : Nat)), (6, .int .i64 (i : Nat)), (7, .int .i64 (x.1 : Nat))]) (fun x => [sl (some ⟨g, 0, none⟩) c 9 1 n (dCT ts x.2), q, R]) (fun x => x.1) (fun x => insInner (ltFT cf) a x.1 x.2 = insInner (ltFT cf) a i e ∧ OkDT ok n x.2 ∧ x.1 ≤ i) (i, e) ?_ ?_ ?_ ?_
  ·exact ⟨rfl, hd', Nat.le_refl _⟩
  ·exact ⟨rfl, rfl, rfl, rfl, rfl, trivial⟩
  ·exact uI
  rintro ⟨j, u⟩ ⟨hu, hdu, hj⟩
  simp only at hu hdu hj ⊢
  have hs := hdu.1
  refine qL (qL (qAw (by kernel_rfl) ?_))
  refine uM rfl (uM rfl (uB (y_gt rfl rfl) ?_))
  refine uM rfl ?_
  refine qAl 19 rfl (fun h2 => ?_) (fun h2 => ?_)
  ·obtain ⟨j, rfl⟩ : ∃ k, j = k + 1 := ⟨j - 1, by omega⟩
   have f0 := qAi (ts := ts) u (i := j + 1) (by omega) (((j + 1 : Nat) : Int)).toNat (by omega)
   have f1 := qAi (ts := ts) u (i := j) (by omega) (((j + 1 : Nat) : Int) - 1).toNat (by omega)
   have hcc := hc _ _ (hdu.2 (j + 1) (by omega)) (hdu.2 j (by omega))
   refine kQ rfl rfl (uM rfl (kQ rfl rfl (uM rfl (kQ rfl rfl (uB (uAj rfl rfl) ?_)))))
   refine kQ rfl rfl (uL ?_)
   refine kQ rfl rfl (uM rfl (kQ rfl rfl (uM rfl (kQ rfl rfl (uB (uAs rfl rfl) ?_)))))
   refine kQ rfl rfl (uB (uAj rfl rfl) ?_)
   refine kQ rfl rfl (uL ?_)
   refine kQ rfl rfl (uX (hcc) rfl ?_)
   rintro _ _ ⟨rfl, rfl⟩
   simp only [uV, uW]
   refine uB (qY rfl rfl) ?_
   refine qM (qK ?_)
   refine zF rfl (fun h3 => ?_) (fun h3 => ?_)
   ·refine zC (qK ?_)
    refine qL (zL ?_)
    refine qAo 15 ([sl (some ⟨g, 0, none⟩) c 9 1 n (dCT ts u), q]) [(17, [])] ?_ ?_
    ·exact uI
    refine uP 0 rfl (qC rfl) ?_
    refine uP 1 rfl (qC rfl) ?_
    refine uP 2 rfl (qC rfl) ?_
    refine uP 3 rfl (qC rfl) ?_
    refine uP 4 rfl (uAs rfl rfl) ?_
    refine uP 5 rfl (qC rfl) ?_
    refine uP 6 rfl (qC rfl) ?_
    refine uP 7 rfl (uAs rfl rfl) ?_
    refine uP 8 rfl (uAj rfl rfl) ?_
    refine uQ 9 rfl (uY) ?_
    refine uP 10 rfl (qC rfl) ?_
    refine uP 11 rfl (qC rfl) ?_
    refine uP 12 rfl (uAj rfl rfl) ?_
    refine uQ 13 rfl (uY) ?_
    refine uP 14 rfl (uAj rfl rfl) ?_
    apply qBo rfl (by kernel_rfl) rfl
    refine uJ ?_
    refine uE ?_
    refine uP 16 rfl (uAj rfl rfl) ?_
    apply qBn rfl (by kernel_rfl) (by kernel_rfl) rfl
    refine uJ ?_
    refine zJ (qK (qJ (uM rfl (uB (uAs rfl rfl) ?_))))
    refine uA rfl (qM ?_)
    simp only [zQ]
    rw [qCo (ts := ts) u (i := (j + 1)) (j := j) (by omega) (by omega)]
    case ho => omega
    case ho' => omega
    refine zT (ι := Nat × Array Nat) (j := (j, swp u (j + 1) j)) ⟨?_, hdu.swp (by omega) (by omega), by show j ≤ i; omega⟩ (by show j < j + 1; omega) ⟨rfl, rfl, rfl, rfl, congrArg some (zX (by simp only; omega)), trivial⟩ uI
    rw [← hu]
    conv => rhs; rw [insInner, if_pos (by simp [ltFT, h3]; omega)]
   rw [insInner, if_neg (by simp [ltFT, h3])] at hu
   rw [← hu] at he
   refine kJ (qQ (qQ (zI (zJ (qK (qJ (uM rfl (uB (uAa rfl rfl) ?_))))))))
   refine uA rfl (qM ?_)
   refine zT (ι := Nat × Array Nat) (j := (i + 1, u)) ⟨he, hdu, by show a + 1 ≤ i + 1; omega, by show i + 1 ≤ n + 1; omega⟩ (by show b - (i + 1) < b - i; omega) ⟨rfl, rfl, rfl, congrArg some (zX (by simp only; omega)), trivial⟩ uI
  have hu' : u = insInner (ltFT cf) a i e := by
   rw [← hu]
   cases j with
   | zero => rfl
   | succ j => rw [insInner, if_neg (by simp; omega)]
  rw [← hu'] at he
  refine zU rfl rfl rfl rfl (zU rfl rfl rfl rfl (zU rfl rfl rfl rfl (zU rfl rfl rfl rfl (zU rfl rfl rfl rfl (zU rfl rfl rfl rfl (zU rfl rfl rfl rfl (zU rfl rfl rfl rfl ?_)))))))
  refine zU rfl rfl rfl rfl (zU rfl rfl rfl rfl ?_)
  refine uB (qZ rfl rfl) ?_
  refine qM (qK (zD rfl (kJ (qQ (qQ (zI (zJ (qK (qJ (uM rfl (uB (uAa rfl rfl) ?_)))))))))))
  refine uA rfl (qM ?_)
  refine zT (ι := Nat × Array Nat) (j := (i + 1, u)) ⟨he, hdu, by show a + 1 ≤ i + 1; omega, by show i + 1 ≤ n + 1; omega⟩ (by show b - (i + 1) < b - i; omega) ⟨rfl, rfl, rfl, congrArg some (zX (by simp only; omega)), trivial⟩ uI
 rw [insOuter, if_neg (show ¬ i < b by omega)] at he
 subst he
 refine kJ (qQ (qQ (zI ?_)))
 exact uZe rfl .nil ⟨rfl, rfl, hd'⟩
open Go.Sort in
theorem qGw {lt : Nat → Nat → Bool} {hi first root ch : Nat} {d : Array Nat} (h : ¬ 2 * root + 1 ≥ hi) (hc : ch < hi) (e : if 2 * root + 1 + 1 < hi && lt d[first + (2 * root + 1)]! d[first + (2 * root + 1) + 1]! then ch = 2 * root + 2 else ch = 2 * root + 1) :
  siftDown lt hi first root d = if !lt d[first + root]! d[first + ch]! then d else siftDown lt hi first ch (swp d (first + root) (first + ch)) := by
 rw [siftDown, dif_neg h]
 split at e
 ·rename_i h1
  subst e
  rw [if_pos h1]
  split
  ·rfl
  first | rw [dif_pos hc] | rfl
 rename_i h1
 subst e
 rw [if_neg h1]
open Go.Sort in
theorem qKr (hE : Seat E) (hc : CmpT E ts q ok cf) {d : Array Nat} (hd : OkDT ok n d) {lo hi first : Nat} (hlo : lo ≤ n) (hb : first + hi ≤ n) (hn : n < 1099511627776) :
  Ct E 140 [.slice (some ⟨g, 0, none⟩) n c, .int .i64 (lo : Nat), .int .i64 (hi : Nat), .int .i64 (first : Nat)] [sl (some ⟨g, 0, none⟩) c 9 1 n (dCT ts d), q]
   (fun v Q => v = .tuple #[] ∧ Q = [sl (some ⟨g, 0, none⟩) c 9 1 n (dCT ts (siftDown (ltFT cf) hi first lo d)), q] ∧ OkDT ok n (siftDown (ltFT cf) hi first lo d)) := by
 refine zP (hE.fn Tryz.func140) rfl rfl rfl (fun R => ?_)
 simp only [qAe, uV, uW]
 refine qL (qJ (uM rfl (uA rfl (qM (qK (zL ?_))))))
 refine qAj (fun x : Nat × Array Nat => [(0, .slice (some ⟨g, 0, none⟩) n c), (2, .int .i64 (hi : Nat)), (3, .int .i64 (first : Nat)), (8, .int .i64 (x.1 : Nat))]) (fun x => [sl (some ⟨g, 0, none⟩) c 9 1 n (dCT ts x.2), q, R]) (fun x => hi - x.1) (fun x => siftDown (ltFT cf) hi first x.1 x.2 = siftDown (ltFT cf) hi first lo d ∧ OkDT ok n x.2 ∧ x.1 ≤ n) (lo, d) ?_ ?_ ?_ ?_
 ·exact ⟨rfl, hd, hlo⟩
 ·exact ⟨rfl, rfl, rfl, rfl, trivial⟩
 ·exact uI
 rintro ⟨ro, e⟩ ⟨he, hd', hro⟩
 simp only at he hd' hro ⊢
 have hs := hd'.1
 refine zL (qL (qJ (uM rfl (uB (qJn rfl rfl (by omega) (by omega)) ?_))))
 refine uB (uAa rfl rfl) ?_
 refine uA rfl (qM (qK (qL (qL (qJ (uM rfl (uM rfl (uB (y_ge rfl rfl) ?_))))))))
 refine qM (qK ?_)
 refine zF rfl (fun h1 => ?_) (fun h1 => ?_)
 ·rw [siftDown, dif_pos (show 2 * ro + 1 ≥ hi by omega)] at he
  subst he
  refine kJ (qQ (qBx rfl (qQ (zI ?_))))
  exact uZe rfl .nil ⟨rfl, rfl, hd'⟩
 refine zC (qK (qL (qL (qAw (by kernel_rfl) ?_))))
 refine uM rfl (uB (uAa rfl rfl) ?_)
 refine uM rfl (uB (y_lt rfl rfl) ?_)
 refine uM rfl ?_
 refine qAl 21 rfl (fun h2 => ?_) (fun h2 => ?_)
 ·have f0 := qAi (ts := ts) e (i := first + (2 * ro + 1)) (by omega) ((first : Int) + (2 * (ro : Int) + 1)).toNat (by omega)
  have f1 := qAi (ts := ts) e (i := first + (2 * ro + 1) + 1) (by omega) ((first : Int) + (2 * (ro : Int) + 1) + 1).toNat (by omega)
  have hcc := hc _ _ (hd'.2 (first + (2 * ro + 1)) (by omega)) (hd'.2 (first + (2 * ro + 1) + 1) (by omega))
  refine kQ rfl rfl (uM rfl (kQ rfl rfl (uM rfl (kQ rfl rfl (uM rfl (kQ rfl rfl (uB (uAa rfl rfl) ?_)))))))
  refine kQ rfl rfl (uB (uAj rfl rfl) ?_)
  refine kQ rfl rfl (uL ?_)
  refine kQ rfl rfl (uM rfl (kQ rfl rfl (uM rfl (kQ rfl rfl (uM rfl (kQ rfl rfl (uB (uAa rfl rfl) ?_)))))))
  refine kQ rfl rfl (uB (uAa rfl rfl) ?_)
  refine kQ rfl rfl (uB (uAj rfl rfl) ?_)
  refine kQ rfl rfl (uL ?_)
  refine kQ rfl rfl (uX (hcc) rfl ?_)
  rintro _ _ ⟨rfl, rfl⟩
  simp only [uV, uW]
  refine uB (qY rfl rfl) ?_
  refine qM (qK ?_)
  refine zF rfl (fun h3 => ?_) (fun h3 => ?_)
  ·have hk := qGw (lt := ltFT cf) (d := e) (first := first) (show ¬ 2 * ro + 1 ≥ hi by omega) (show 2 * ro + 2 < hi by omega) (by rw [if_pos (by simp [ltFT, h3]; omega)])
   refine qJ (uM rfl (uB (uAa rfl rfl) ?_))
   refine uA rfl (qM (qK ?_))
   refine w_eq 9 (.int .i64 ((2 * ro + 2 : Nat) : Int)) rfl (zX (by omega)) ?_
   rw [hk] at he
   have f2 := qAi (ts := ts) e (i := first + ro) (by omega) ((first : Int) + (ro : Int)).toNat (by omega)
   have f3 := qAi (ts := ts) e (i := first + (2 * ro + 2)) (by omega) ((first : Int) + ((2 * ro + 2 : Nat) : Int)).toNat (by omega)
   have hcd := hc _ _ (hd'.2 (first + ro) (by omega)) (hd'.2 (first + (2 * ro + 2)) (by omega))
   refine qL (qL (qAw (by kernel_rfl) ?_))
   refine uM rfl (uM rfl (uM rfl (uB (uAa rfl rfl) ?_)))
   refine uB (uAj rfl rfl) ?_
   refine uL ?_
   refine uM rfl (uM rfl (uM rfl (uB (uAa rfl rfl) ?_)))
   refine uB (uAj rfl rfl) ?_
   refine uL ?_
   refine uX (hcd) rfl ?_
   rintro _ _ ⟨rfl, rfl⟩
   simp only [uV, uW]
   refine uB (qBm rfl) ?_
   refine qM (qK ?_)
   refine qBe rfl (fun h5 => ?_) (fun h5 => ?_)
   ·rw [if_pos (by simp [ltFT, h5])] at he
    subst he
    refine kC (qX (zO (qX (zO ?_))))
    exact uZ rfl .nil ⟨rfl, rfl, hd'⟩
   rw [if_neg (by simp [ltFT, h5])] at he
   refine zC (qK (qL ?_))
   refine qAo 21 ([sl (some ⟨g, 0, none⟩) c 9 1 n (dCT ts e), q]) [(23, [])] ?_ ?_
   ·exact uI
   refine uP 0 rfl (qC rfl) ?_
   refine uP 1 rfl (qC rfl) ?_
   refine uP 2 rfl (qC rfl) ?_
   refine uP 3 rfl (uAa rfl rfl) ?_
   refine uP 4 rfl (qC rfl) ?_
   refine uP 5 rfl (qC rfl) ?_
   refine uP 6 rfl (qC rfl) ?_
   refine uP 7 rfl (uAa rfl rfl) ?_
   refine uP 8 rfl (qC rfl) ?_
   refine uP 9 rfl (qC rfl) ?_
   refine uP 10 rfl (qC rfl) ?_
   refine uP 11 rfl (uAa rfl rfl) ?_
   refine uP 12 rfl (uAj rfl rfl) ?_
   refine uQ 13 rfl (uY) ?_
   refine uP 14 rfl (qC rfl) ?_
   refine uP 15 rfl (qC rfl) ?_
   refine uP 16 rfl (qC rfl) ?_
   refine uP 17 rfl (uAa rfl rfl) ?_
   refine uP 18 rfl (uAj rfl rfl) ?_
   refine uQ 19 rfl (uY) ?_
   refine uP 20 rfl (uAj rfl rfl) ?_
   apply qBo rfl (by kernel_rfl) rfl
   refine uJ ?_
   refine uE ?_
   refine uP 22 rfl (uAj rfl rfl) ?_
   apply qBn rfl (by kernel_rfl) (by kernel_rfl) rfl
   refine uJ ?_
   refine qK (qJ (uM rfl (uA rfl (qM (zJ ?_)))))
   simp only [zQ]
   rw [qCo (ts := ts) e (i := (first + ro)) (j := (first + (2 * ro + 2))) (by omega) (by omega)]
   case ho => omega
   case ho' => omega
   refine zT (ι := Nat × Array Nat) (j := (2 * ro + 2, swp e (first + ro) (first + (2 * ro + 2)))) ⟨he, hd'.swp (by omega) (by omega), by show 2 * ro + 2 ≤ n; omega⟩ (by show hi - (2 * ro + 2) < hi - ro; omega) ⟨rfl, rfl, rfl, rfl, trivial⟩ uI
  have hk := qGw (lt := ltFT cf) (d := e) (first := first) (show ¬ 2 * ro + 1 ≥ hi by omega) (show 2 * ro + 1 < hi by omega) (by rw [if_neg (by simp [ltFT, h3])])
  refine zC (qK ?_)
  refine w_eq 9 (.int .i64 ((2 * ro + 1 : Nat) : Int)) rfl (zX (by omega)) ?_
  rw [hk] at he
  have f2 := qAi (ts := ts) e (i := first + ro) (by omega) ((first : Int) + (ro : Int)).toNat (by omega)
  have f3 := qAi (ts := ts) e (i := first + (2 * ro + 1)) (by omega) ((first : Int) + ((2 * ro + 1 : Nat) : Int)).toNat (by omega)
  have hcd := hc _ _ (hd'.2 (first + ro) (by omega)) (hd'.2 (first + (2 * ro + 1)) (by omega))
  refine qL (qL (qAw (by kernel_rfl) ?_))
  refine uM rfl (uM rfl (uM rfl (uB (uAa rfl rfl) ?_)))
  refine uB (uAj rfl rfl) ?_
  refine uL ?_
  refine uM rfl (uM rfl (uM rfl (uB (uAa rfl rfl) ?_)))
  refine uB (uAj rfl rfl) ?_
  refine uL ?_
  refine uX (hcd) rfl ?_
  rintro _ _ ⟨rfl, rfl⟩
  simp only [uV, uW]
  refine uB (qBm rfl) ?_
  refine qM (qK ?_)
  refine qBe rfl (fun h5 => ?_) (fun h5 => ?_)
  ·rw [if_pos (by simp [ltFT, h5])] at he
   subst he
   refine kC (qX (zO (qX (zO ?_))))
   exact uZ rfl .nil ⟨rfl, rfl, hd'⟩
  rw [if_neg (by simp [ltFT, h5])] at he
  refine zC (qK (qL ?_))
  refine qAo 21 ([sl (some ⟨g, 0, none⟩) c 9 1 n (dCT ts e), q]) [(23, [])] ?_ ?_
  ·exact uI
  refine uP 0 rfl (qC rfl) ?_
  refine uP 1 rfl (qC rfl) ?_
  refine uP 2 rfl (qC rfl) ?_
  refine uP 3 rfl (uAa rfl rfl) ?_
  refine uP 4 rfl (qC rfl) ?_
  refine uP 5 rfl (qC rfl) ?_
  refine uP 6 rfl (qC rfl) ?_
  refine uP 7 rfl (uAa rfl rfl) ?_
  refine uP 8 rfl (qC rfl) ?_
  refine uP 9 rfl (qC rfl) ?_
  refine uP 10 rfl (qC rfl) ?_
  refine uP 11 rfl (uAa rfl rfl) ?_
  refine uP 12 rfl (uAj rfl rfl) ?_
  refine uQ 13 rfl (uY) ?_
  refine uP 14 rfl (qC rfl) ?_
  refine uP 15 rfl (qC rfl) ?_
  refine uP 16 rfl (qC rfl) ?_
  refine uP 17 rfl (uAa rfl rfl) ?_
  refine uP 18 rfl (uAj rfl rfl) ?_
  refine uQ 19 rfl (uY) ?_
  refine uP 20 rfl (uAj rfl rfl) ?_
  apply qBo rfl (by kernel_rfl) rfl
  refine uJ ?_
  refine uE ?_
  refine uP 22 rfl (uAj rfl rfl) ?_
  apply qBn rfl (by kernel_rfl) (by kernel_rfl) rfl
  refine uJ ?_
  refine qK (qJ (uM rfl (uA rfl (qM (zJ ?_)))))
  simp only [zQ]
  rw [qCo (ts := ts) e (i := (first + ro)) (j := (first + (2 * ro + 1))) (by omega) (by omega)]
  case ho => omega
  case ho' => omega
  refine zT (ι := Nat × Array Nat) (j := (2 * ro + 1, swp e (first + ro) (first + (2 * ro + 1)))) ⟨he, hd'.swp (by omega) (by omega), by show 2 * ro + 1 ≤ n; omega⟩ (by show hi - (2 * ro + 1) < hi - ro; omega) ⟨rfl, rfl, rfl, rfl, trivial⟩ uI
 have hk := qGw (lt := ltFT cf) (d := e) (first := first) (show ¬ 2 * ro + 1 ≥ hi by omega) (show 2 * ro + 1 < hi by omega) (by rw [if_neg (by simp; omega)])
 refine zU rfl rfl rfl rfl (zU rfl rfl rfl rfl (zU rfl rfl rfl rfl (zU rfl rfl rfl rfl (zU rfl rfl rfl rfl (zU rfl rfl rfl rfl (zU rfl rfl rfl rfl (zU rfl rfl rfl rfl ?_)))))))
 refine zU rfl rfl rfl rfl (zU rfl rfl rfl rfl (zU rfl rfl rfl rfl (zU rfl rfl rfl rfl (zU rfl rfl rfl rfl (zU rfl rfl rfl rfl ?_)))))
 refine uB (qZ rfl rfl) ?_
 refine qM (qK (zD rfl (zC (qK ?_))))
 refine w_eq 9 (.int .i64 ((2 * ro + 1 : Nat) : Int)) rfl (zX (by omega)) ?_
 rw [hk] at he
 have f2 := qAi (ts := ts) e (i := first + ro) (by omega) ((first : Int) + (ro : Int)).toNat (by omega)
 have f3 := qAi (ts := ts) e (i := first + (2 * ro + 1)) (by omega) ((first : Int) + ((2 * ro + 1 : Nat) : Int)).toNat (by omega)
 have hcd := hc _ _ (hd'.2 (first + ro) (by omega)) (hd'.2 (first + (2 * ro + 1)) (by omega))
 refine qL (qL (qAw (by kernel_rfl) ?_))
 refine uM rfl (uM rfl (uM rfl (uB (uAa rfl rfl) ?_)))
 refine uB (uAj rfl rfl) ?_
 refine uL ?_
 refine uM rfl (uM rfl (uM rfl (uB (uAa rfl rfl) ?_)))
 refine uB (uAj rfl rfl) ?_
 refine uL ?_
 refine uX (hcd) rfl ?_
 rintro _ _ ⟨rfl, rfl⟩
 simp only [uV, uW]
 refine uB (qBm rfl) ?_
 refine qM (qK ?_)
 refine qBe rfl (fun h5 => ?_) (fun h5 => ?_)
 ·rw [if_pos (by simp [ltFT, h5])] at he
  subst he
  refine kC (qX (zO (qX (zO ?_))))
  exact uZ rfl .nil ⟨rfl, rfl, hd'⟩
 rw [if_neg (by simp [ltFT, h5])] at he
 refine zC (qK (qL ?_))
 refine qAo 21 ([sl (some ⟨g, 0, none⟩) c 9 1 n (dCT ts e), q]) [(23, [])] ?_ ?_
 ·exact uI
 refine uP 0 rfl (qC rfl) ?_
 refine uP 1 rfl (qC rfl) ?_
 refine uP 2 rfl (qC rfl) ?_
 refine uP 3 rfl (uAa rfl rfl) ?_
 refine uP 4 rfl (qC rfl) ?_
 refine uP 5 rfl (qC rfl) ?_
 refine uP 6 rfl (qC rfl) ?_
 refine uP 7 rfl (uAa rfl rfl) ?_
 refine uP 8 rfl (qC rfl) ?_
 refine uP 9 rfl (qC rfl) ?_
 refine uP 10 rfl (qC rfl) ?_
 refine uP 11 rfl (uAa rfl rfl) ?_
 refine uP 12 rfl (uAj rfl rfl) ?_
 refine uQ 13 rfl (uY) ?_
 refine uP 14 rfl (qC rfl) ?_
 refine uP 15 rfl (qC rfl) ?_
 refine uP 16 rfl (qC rfl) ?_
 refine uP 17 rfl (uAa rfl rfl) ?_
 refine uP 18 rfl (uAj rfl rfl) ?_
 refine uQ 19 rfl (uY) ?_
 refine uP 20 rfl (uAj rfl rfl) ?_
 apply qBo rfl (by kernel_rfl) rfl
 refine uJ ?_
 refine uE ?_
 refine uP 22 rfl (uAj rfl rfl) ?_
 apply qBn rfl (by kernel_rfl) (by kernel_rfl) rfl
 refine uJ ?_
 refine qK (qJ (uM rfl (uA rfl (qM (zJ ?_)))))
 simp only [zQ]
 rw [qCo (ts := ts) e (i := (first + ro)) (j := (first + (2 * ro + 1))) (by omega) (by omega)]
 case ho => omega
 case ho' => omega
 refine zT (ι := Nat × Array Nat) (j := (2 * ro + 1, swp e (first + ro) (first + (2 * ro + 1)))) ⟨he, hd'.swp (by omega) (by omega), by show 2 * ro + 1 ≤ n; omega⟩ (by show hi - (2 * ro + 1) < hi - ro; omega) ⟨rfl, rfl, rfl, rfl, trivial⟩ uI
open Go.Sort in
theorem qRx (hE : Seat E) (hc : CmpT E ts q ok cf) {d : Array Nat} (hd : OkDT ok n d) {a b : Nat} (hab : a < b) (hb : b ≤ n) (hn : n < 1099511627776) :
  Ct E 103 [.slice (some ⟨g, 0, none⟩) n c, .int .i64 (a : Nat), .int .i64 (b : Nat)] [sl (some ⟨g, 0, none⟩) c 9 1 n (dCT ts d), q]
   (fun v Q => v = .tuple #[] ∧ Q = [sl (some ⟨g, 0, none⟩) c 9 1 n (dCT ts (heapSort (ltFT cf) d a b)), q] ∧ OkDT ok n (heapSort (ltFT cf) d a b)) := by
 obtain ⟨l, hl⟩ : ∃ l, l = b - a := ⟨_, rfl⟩
 have e0 : heapSort (ltFT cf) d a b = heapPop (ltFT cf) a l (heapBuild (ltFT cf) l a ((l - 1) / 2 + 1) d) := by unfold heapSort; rw [← hl]
 rw [e0]
 refine zP (hE.fn Tryz.func103) rfl rfl rfl (fun R => ?_)
 simp only [qAe, uV, uW]
 refine qL (qJ (uM rfl (uA rfl (qM (qK (qL (qJ (uA rfl (qM (qK (qL (qJ (uM rfl (uM rfl (uB (uAs rfl rfl) ?_)))))))))))))))
 refine uA rfl (qM (qK ?_))
 refine w_eq 8 (.int .i64 ((l : Nat) : Int)) rfl (zX (by omega)) ?_
 refine qL (qL (qJ (uM rfl (uB (uAs rfl rfl) ?_))))
 refine uB (qHe rfl rfl (by omega) (by omega) (by omega)) ?_
 refine uA rfl (qM (qK (zL ?_)))
 refine qAj (fun x : Nat × Array Nat => [(0, .slice (some ⟨g, 0, none⟩) n c), (6, .int .i64 (a : Nat)), (7, .int .i64 0), (8, .int .i64 (l : Nat)), (9, .int .i64 ((x.1 : Int) - 1))]) (fun x => [sl (some ⟨g, 0, none⟩) c 9 1 n (dCT ts x.2), q, R]) (fun x => x.1) (fun x => heapBuild (ltFT cf) l a x.1 x.2 = heapBuild (ltFT cf) l a ((l - 1) / 2 + 1) d ∧ OkDT ok n x.2 ∧ x.1 ≤ l) ((l - 1) / 2 + 1, d) ?_ ?_ ?_ ?_
 ·exact ⟨rfl, hd, by show (l - 1) / 2 + 1 ≤ l; omega⟩
 ·exact ⟨rfl, rfl, rfl, rfl, congrArg some (zX (by simp only; omega)), trivial⟩
 ·exact uI
 rintro ⟨k, e⟩ ⟨he, hd', hk⟩
 simp only at he hd' hk ⊢
 refine qL (qL (qJ (uM rfl (uB (y_ge rfl rfl) ?_))))
 refine qM (qK ?_)
 refine zF rfl (fun h1 => ?_) (fun h1 => ?_)
 ·obtain ⟨k, rfl⟩ : ∃ j, k = j + 1 := ⟨k - 1, by omega⟩
  refine zC (qK ?_)
  refine w_eq 9 (.int .i64 ((k : Nat) : Int)) rfl (zX (by omega)) ?_
  refine qL (zL (qJ (uM rfl (uM rfl (uM rfl (uM rfl (uX (qKr hE hc hd' (by omega) (by omega) hn) rfl ?_)))))))
  rintro _ _ ⟨rfl, rfl, hd2⟩
  simp only [uV, uW]
  refine qM (zJ (qK (qJ (uM rfl (uB (uAs rfl rfl) ?_)))))
  refine uA rfl (qM ?_)
  refine zT (ι := Nat × Array Nat) (j := (k, siftDown (ltFT cf) l a k e)) ⟨he, hd2, by show k ≤ l; omega⟩ (by show k < k + 1; omega) ⟨rfl, rfl, rfl, rfl, rfl, trivial⟩ uI
 obtain rfl : k = 0 := by omega
 rw [heapBuild] at he
 rw [← he]
 clear he hd e0
 refine kJ (qQ (qQ (zI (qK (qL (qJ (uM rfl (uB (uAs rfl rfl) ?_))))))))
 refine uA rfl (qM (qK (zL ?_)))
 refine qAj (fun x : Nat × Array Nat => [(0, .slice (some ⟨g, 0, none⟩) n c), (6, .int .i64 (a : Nat)), (7, .int .i64 0), (10, .int .i64 ((x.1 : Int) - 1))]) (fun x => [sl (some ⟨g, 0, none⟩) c 9 1 n (dCT ts x.2), q, R]) (fun x => x.1) (fun x => heapPop (ltFT cf) a x.1 x.2 = heapPop (ltFT cf) a l e ∧ OkDT ok n x.2 ∧ x.1 ≤ l) (l, e) ?_ ?_ ?_ ?_
 ·exact ⟨rfl, hd', Nat.le_refl _⟩
 ·exact ⟨rfl, rfl, rfl, rfl, trivial⟩
 ·exact uI
 rintro ⟨k, u⟩ ⟨hu, hdu, hk⟩
 simp only at hu hdu hk ⊢
 have hs := hdu.1
 refine qL (qL (qJ (uM rfl (uB (y_ge rfl rfl) ?_))))
 refine qM (qK ?_)
 refine zF rfl (fun h2 => ?_) (fun h2 => ?_)
 ·obtain ⟨k, rfl⟩ : ∃ j, k = j + 1 := ⟨k - 1, by omega⟩
  have f0 := qAi (ts := ts) u (i := a + k) (by omega) ((a : Int) + (k : Int)).toNat (by omega)
  have f1 := qAi (ts := ts) u (i := a) (by omega) (a : Int).toNat (by omega)
  refine zC (qK ?_)
  refine w_eq 10 (.int .i64 ((k : Nat) : Int)) rfl (zX (by omega)) ?_
  refine qL (zL (qL ?_))
  refine qAo 17 ([sl (some ⟨g, 0, none⟩) c 9 1 n (dCT ts u), q]) [(19, [])] ?_ ?_
  ·exact uI
  refine uP 0 rfl (qC rfl) ?_
  refine uP 1 rfl (qC rfl) ?_
  refine uP 2 rfl (qC rfl) ?_
  refine uP 3 rfl (qC rfl) ?_
  refine uP 4 rfl (qC rfl) ?_
  refine uP 5 rfl (uAa rfl rfl) ?_
  refine uP 6 rfl (qC rfl) ?_
  refine uP 7 rfl (qC rfl) ?_
  refine uP 8 rfl (qC rfl) ?_
  refine uP 9 rfl (uAa rfl rfl) ?_
  refine uP 10 rfl (uAj rfl rfl) ?_
  refine uQ 11 rfl (uY) ?_
  refine uP 12 rfl (qC rfl) ?_
  refine uP 13 rfl (qC rfl) ?_
  refine uP 14 rfl (uAj rfl rfl) ?_
  refine uQ 15 rfl (uY) ?_
  refine uP 16 rfl (uAj rfl rfl) ?_
  apply qBo rfl (by kernel_rfl) rfl
  refine uJ ?_
  refine uE ?_
  refine uP 18 rfl (uAj rfl rfl) ?_
  apply qBn rfl (by kernel_rfl) (by kernel_rfl) rfl
  refine uJ ?_
  refine qK ?_
  simp only [zQ]
  rw [qCo (ts := ts) u (i := a) (j := (a + k)) (by omega) (by omega)]
  case ho => omega
  case ho' => omega
  refine qJ (uM rfl (uM rfl (uM rfl (uM rfl ?_))))
  refine uX (qKr (lo := 0) hE hc (hdu.swp (show a < n by omega) (show a + k < n by omega)) (by omega) (by omega) hn) rfl ?_
  rintro _ _ ⟨rfl, rfl, hd2⟩
  simp only [uV, uW]
  refine qM (zJ (qK (qJ (uM rfl (uB (uAs rfl rfl) ?_)))))
  refine uA rfl (qM ?_)
  refine zT (ι := Nat × Array Nat) (j := (k, siftDown (ltFT cf) k a 0 (swp u a (a + k)))) ⟨hu, hd2, by show k ≤ l; omega⟩ (by show k < k + 1; omega) ⟨rfl, rfl, rfl, rfl, trivial⟩ uI
 obtain rfl : k = 0 := by omega
 rw [heapPop] at hu
 subst hu
 refine kJ (qQ (qQ (zI ?_)))
 exact uZe rfl .nil ⟨rfl, rfl, hdu⟩
end
section
variable {E : Env}
variable {ts : Nat → List UInt8} {q : HP} {ok : Nat → Prop} {cf : Nat → Nat → Int} {g c n : Nat}
open Go.Sort in
theorem qIt (hE : Seat E) (hc : CmpT E ts q ok cf) {d : Array Nat} (hd : OkDT ok n d) {a b pv : Nat} (hap : a ≤ pv) (hpb : pv < b) (hb : b ≤ n) (hn : n < 1099511627776) :
  Ct E 109 [.slice (some ⟨g, 0, none⟩) n c, .int .i64 (a : Nat), .int .i64 (b : Nat), .int .i64 (pv : Nat)] [sl (some ⟨g, 0, none⟩) c 9 1 n (dCT ts d), q]
   (fun v Q => v = .int .i64 ((partitionEqual (ltFT cf) d a b pv).1 : Nat) ∧ Q = [sl (some ⟨g, 0, none⟩) c 9 1 n (dCT ts (partitionEqual (ltFT cf) d a b pv).2), q] ∧ OkDT ok n (partitionEqual (ltFT cf) d a b pv).2) := by
 have hs := hd.1
 have f2 := qAi (ts := ts) d (i := pv) (by omega) ((pv : Int)).toNat (by omega)
 have f3 := qAi (ts := ts) d (i := a) (by omega) ((a : Int)).toNat (by omega)
 obtain ⟨r, hr⟩ : ∃ r, r = partitionEqual (ltFT cf) d a b pv := ⟨_, rfl⟩
 have hr' := hr
 unfold partitionEqual at hr'
 rw [← hr]
 refine zP (hE.fn Tryz.func109) rfl rfl rfl (fun R => ?_)
 simp only [qAe, uV, uW]
 refine qL (qJ (uA rfl (qM (qK (qL ?_)))))
 refine qAo 13 ([sl (some ⟨g, 0, none⟩) c 9 1 n (dCT ts d), q]) [(15, [])] ?_ ?_
 ·exact uI
 refine uP 0 rfl (qC rfl) ?_
 refine uP 1 rfl (qC rfl) ?_
 refine uP 2 rfl (qC rfl) ?_
 refine uP 3 rfl (qC rfl) ?_
 refine uP 4 rfl (qC rfl) ?_
 refine uP 5 rfl (qC rfl) ?_
 refine uP 6 rfl (uAj rfl rfl) ?_
 refine uQ 7 rfl (uY) ?_
 refine uP 8 rfl (qC rfl) ?_
 refine uP 9 rfl (qC rfl) ?_
 refine uP 10 rfl (uAj rfl rfl) ?_
 refine uQ 11 rfl (uY) ?_
 refine uP 12 rfl (uAj rfl rfl) ?_
 apply qBo rfl (by kernel_rfl) rfl
 refine uJ ?_
 refine uE ?_
 refine uP 14 rfl (uAj rfl rfl) ?_
 apply qBn rfl (by kernel_rfl) (by kernel_rfl) rfl
 refine uJ ?_
 refine qK (qL (qJ (uM rfl (uB (uAa rfl rfl) ?_))))
 refine uM rfl (uB (uAs rfl rfl) ?_)
 refine uA rfl (uA rfl (qM (qK ?_)))
 simp only [zQ]
 rw [qCo (ts := ts) d (i := a) (j := pv) (by omega) (by omega)]
 case ho => omega
 case ho' => omega
 refine w_eq 9 (.int .i64 ((a + 1 : Nat) : Int)) rfl (zX (by omega)) ?_
 refine w_eq 10 (.int .i64 ((b - 1 : Nat) : Int)) rfl (zX (by omega)) ?_
 have hd1 := hd.swp (show a < n by omega) (show pv < n by omega)
 generalize swp d a pv = d1 at *
 refine qL (zL ?_)
 refine qAj (fun x : Nat × Nat × Array Nat => [(0, .slice (some ⟨g, 0, none⟩) n c), (1, .int .i64 (a : Nat)), (9, .int .i64 (x.1 : Nat)), (10, .int .i64 (x.2.1 : Nat))]) (fun x => [sl (some ⟨g, 0, none⟩) c 9 1 n (dCT ts x.2.2), q, R]) (fun x => x.2.1 + 1 - x.1) (fun x => partEqLoop (ltFT cf) a x.1 x.2.1 x.2.2 = r ∧ OkDT ok n x.2.2 ∧ a < x.1 ∧ a ≤ x.2.1 ∧ x.1 ≤ x.2.1 + 2 ∧ x.2.1 < b) (a + 1, b - 1, d1) ?_ ?_ ?_ ?_
 ·exact ⟨hr'.symm, hd1, by show a < a + 1; omega, by show a ≤ b - 1; omega, by show a + 1 ≤ b - 1 + 2; omega, by show b - 1 < b; omega⟩
 ·exact ⟨rfl, rfl, rfl, rfl, trivial⟩
 ·exact uI
 rintro ⟨i, j, e⟩ ⟨he, hde, hi, haj, hij, hj⟩
 simp only at he hde hi haj hij hj ⊢
 have hse := hde.1
 rw [partEqLoop_eq] at he
 obtain ⟨i2, hi2⟩ : ∃ i2, scanUp (fun x => !ltFT cf e[a]! x) e j i = i2 := ⟨_, rfl⟩
 rw [hi2] at he
 obtain ⟨j2, hj2⟩ : ∃ j2, scanDown (fun x => ltFT cf e[a]! x) e i2 j = j2 := ⟨_, rfl⟩
 rw [hj2] at he
 refine zL ?_
 refine qDs (fun _ : Unit => [(0, .slice (some ⟨g, 0, none⟩) n c), (1, .int .i64 (a : Nat)), (9, .int .i64 ((i2 : Nat) : Int)), (10, .int .i64 ((j : Nat) : Int))]) (fun _ => [sl (some ⟨g, 0, none⟩) c 9 1 n (dCT ts (e)), q, R]) (fun _ => i ≤ i2 ∧ i2 ≤ j + 2) ?_ ?_
 ·refine zL ?_
  refine qAj (fun x : Nat => [(0, .slice (some ⟨g, 0, none⟩) n c), (1, .int .i64 (a : Nat)), (9, .int .i64 ((x : Nat) : Int)), (10, .int .i64 ((j : Nat) : Int))]) (fun _ => [sl (some ⟨g, 0, none⟩) c 9 1 n (dCT ts (e)), q, R]) (fun x => j + 1 - x) (fun x => scanUp (fun x => !ltFT cf (e)[a]! x) (e) (j) x = i2 ∧ i ≤ x ∧ x ≤ j + 2) (i) ?_ ?_ ?_ ?_
  ·exact ⟨hi2, by omega, by omega⟩
  ·exact ⟨rfl, rfl, rfl, rfl, trivial⟩
  ·exact uI
  rintro x ⟨hx, hx1, hx2⟩
  refine qL (qL (qAw (by kernel_rfl) ?_))
  refine uM rfl (uM rfl (uB (y_le rfl rfl) ?_))
  refine uM rfl ?_
  refine qAl 32 rfl (fun su => ?_) (fun su => ?_)
  ·have f0 := qAi (ts := ts) (e) (i := x) (by omega) ((x : Nat) : Int).toNat (by omega)
   have f1 := qAi (ts := ts) (e) (i := a) (by omega) ((a : Nat) : Int).toNat (by omega)
   have hcc := hc _ _ (hde.2 (a) (by omega)) (hde.2 (x) (by omega))
   refine kQ rfl rfl (uM rfl (kQ rfl rfl (uM rfl (kQ rfl rfl (uB (uAj rfl rfl) ?_)))))
   refine kQ rfl rfl (uL ?_)
   refine kQ rfl rfl (uM rfl (kQ rfl rfl (uM rfl (kQ rfl rfl (uB (uAj rfl rfl) ?_)))))
   refine kQ rfl rfl (uL ?_)
   refine kQ rfl rfl (uX (hcc) rfl ?_)
   rintro _ _ ⟨rfl, rfl⟩
   simp only [uV, uW]
   refine kQ rfl rfl (uB (qBm rfl) ?_)
   refine uB (qY rfl rfl) ?_
   refine qM (qK ?_)
   refine qBe rfl (fun gu => ?_) (fun gu => ?_)
   ·refine zC (qK (zL (qJ ?_)))
    refine uM rfl (uB (uAa rfl rfl) ?_)
    refine uA rfl (qM (zJ ?_))
    refine zT (x + 1) ⟨?_, by omega, by omega⟩ (by omega) ⟨rfl, rfl, congrArg some (zX (by omega)), rfl, trivial⟩ uI
    rw [← hx]
    conv => rhs; rw [scanUp, if_pos (by simp [ltFT, gu]; omega)]
   rw [scanUp, if_neg (by simp [ltFT, gu])] at hx
   rw [← hx]
   refine kJ (qQ (qQ (zI ?_)))
   refine qBd () (by omega) ⟨rfl, rfl, rfl, rfl, trivial⟩ uI
  rw [scanUp, if_neg (by simp; omega)] at hx
  rw [← hx]
  refine zU rfl rfl rfl rfl (zU rfl rfl rfl rfl (zU rfl rfl rfl rfl (zU rfl rfl rfl rfl (zU rfl rfl rfl rfl (zU rfl rfl rfl rfl (zU rfl rfl rfl rfl (zU rfl rfl rfl rfl ?_)))))))
  refine zU rfl rfl rfl rfl (zU rfl rfl rfl rfl ?_)
  refine uB (qZ rfl rfl) ?_
  refine qM (qK (zD rfl (kJ (qQ (qQ (zI ?_))))))
  refine qBd () (by omega) ⟨rfl, rfl, rfl, rfl, trivial⟩ uI
 rintro _ ⟨hi2a, hi2b⟩
 refine qDs (fun _ : Unit => [(0, .slice (some ⟨g, 0, none⟩) n c), (1, .int .i64 (a : Nat)), (9, .int .i64 ((i2 : Nat) : Int)), (10, .int .i64 ((j2 : Nat) : Int))]) (fun _ => [sl (some ⟨g, 0, none⟩) c 9 1 n (dCT ts (e)), q, R]) (fun _ => a ≤ j2 ∧ j2 ≤ j) ?_ ?_
 ·refine zL ?_
  refine qAj (fun x : Nat => [(0, .slice (some ⟨g, 0, none⟩) n c), (1, .int .i64 (a : Nat)), (9, .int .i64 ((i2 : Nat) : Int)), (10, .int .i64 ((x : Nat) : Int))]) (fun _ => [sl (some ⟨g, 0, none⟩) c 9 1 n (dCT ts (e)), q, R]) (fun x => x) (fun x => scanDown (fun x => ltFT cf (e)[a]! x) (e) (i2) x = j2 ∧ a ≤ x ∧ x ≤ j) (j) ?_ ?_ ?_ ?_
  ·exact ⟨hj2, by omega, by omega⟩
  ·exact ⟨rfl, rfl, rfl, rfl, trivial⟩
  ·exact uI
  rintro x ⟨hx, hx1, hx2⟩
  refine qL (qL (qAw (by kernel_rfl) ?_))
  refine uM rfl (uM rfl (uB (y_le rfl rfl) ?_))
  refine uM rfl ?_
  refine qAl 49 rfl (fun sw => ?_) (fun sw => ?_)
  ·obtain ⟨x, rfl⟩ : ∃ k, x = k + 1 := ⟨x - 1, by omega⟩
   have f0 := qAi (ts := ts) (e) (i := x + 1) (by omega) ((x + 1 : Nat) : Int).toNat (by omega)
   have f1 := qAi (ts := ts) (e) (i := a) (by omega) ((a : Nat) : Int).toNat (by omega)
   have hcc := hc _ _ (hde.2 (a) (by omega)) (hde.2 (x + 1) (by omega))
   refine kQ rfl rfl (uM rfl (kQ rfl rfl (uM rfl (kQ rfl rfl (uB (uAj rfl rfl) ?_)))))
   refine kQ rfl rfl (uL ?_)
   refine kQ rfl rfl (uM rfl (kQ rfl rfl (uM rfl (kQ rfl rfl (uB (uAj rfl rfl) ?_)))))
   refine kQ rfl rfl (uL ?_)
   refine kQ rfl rfl (uX (hcc) rfl ?_)
   rintro _ _ ⟨rfl, rfl⟩
   simp only [uV, uW]
   refine uB (qY rfl rfl) ?_
   refine qM (qK ?_)
   refine zF rfl (fun gw => ?_) (fun gw => ?_)
   ·refine zC (qK (zL (qJ ?_)))
    refine uM rfl (uB (uAs rfl rfl) ?_)
    refine uA rfl (qM (zJ ?_))
    refine zT (x) ⟨?_, by omega, by omega⟩ (by omega) ⟨rfl, rfl, rfl, congrArg some (zX (by omega)), trivial⟩ uI
    rw [← hx]
    conv => rhs; rw [scanDown, if_pos (by simp [ltFT, gw]; omega)]
   rw [scanDown, if_neg (by simp [ltFT, gw])] at hx
   rw [← hx]
   refine kJ (qQ (qQ (zI ?_)))
   refine qBd () (by omega) ⟨rfl, rfl, rfl, rfl, trivial⟩ uI
  have hx' : x = j2 := by
   rw [← hx]
   cases x with
   | zero => rfl
   | succ x => rw [scanDown, if_neg (by simp; omega)]
  rw [← hx']
  refine zU rfl rfl rfl rfl (zU rfl rfl rfl rfl (zU rfl rfl rfl rfl (zU rfl rfl rfl rfl (zU rfl rfl rfl rfl (zU rfl rfl rfl rfl (zU rfl rfl rfl rfl (zU rfl rfl rfl rfl ?_)))))))
  refine zU rfl rfl rfl rfl ?_
  refine uB (qZ rfl rfl) ?_
  refine qM (qK (zD rfl (kJ (qQ (qQ (zI ?_))))))
  refine qBd () (by omega) ⟨rfl, rfl, rfl, rfl, trivial⟩ uI
 rintro _ ⟨hj2a, hj2b⟩
 refine qL (qL (qJ (uM rfl (uM rfl (uB (y_gt rfl rfl) ?_)))))
 refine qM (qK ?_)
 refine zF rfl (fun h7 => ?_) (fun h7 => ?_)
 ·rw [if_pos (by omega)] at he
  subst he
  refine kJ (qQ (qBx rfl (qQ (zI (qK (qL (qJ ?_)))))))
  refine uM rfl (uA rfl (qM (qK (kC ?_))))
  exact uZ rfl (.tmp rfl .nil) ⟨rfl, rfl, hde⟩
 rw [if_neg (by omega)] at he
 have f4 := qAi (ts := ts) e (i := i2) (by omega) ((i2 : Int)).toNat (by omega)
 have f5 := qAi (ts := ts) e (i := j2) (by omega) ((j2 : Int)).toNat (by omega)
 refine zC (qK (qL ?_))
 refine qAo 13 ([sl (some ⟨g, 0, none⟩) c 9 1 n (dCT ts e), q]) [(15, [])] ?_ ?_
 ·exact uI
 refine uP 0 rfl (qC rfl) ?_
 refine uP 1 rfl (qC rfl) ?_
 refine uP 2 rfl (qC rfl) ?_
 refine uP 3 rfl (qC rfl) ?_
 refine uP 4 rfl (qC rfl) ?_
 refine uP 5 rfl (qC rfl) ?_
 refine uP 6 rfl (uAj rfl rfl) ?_
 refine uQ 7 rfl (uY) ?_
 refine uP 8 rfl (qC rfl) ?_
 refine uP 9 rfl (qC rfl) ?_
 refine uP 10 rfl (uAj rfl rfl) ?_
 refine uQ 11 rfl (uY) ?_
 refine uP 12 rfl (uAj rfl rfl) ?_
 apply qBo rfl (by kernel_rfl) rfl
 refine uJ ?_
 refine uE ?_
 refine uP 14 rfl (uAj rfl rfl) ?_
 apply qBn rfl (by kernel_rfl) (by kernel_rfl) rfl
 refine uJ ?_
 refine qK (qL (qJ (uM rfl (uB (uAa rfl rfl) ?_))))
 refine uA rfl (qM (qK (qJ (uM rfl (uB (uAs rfl rfl) ?_)))))
 refine uA rfl (qM (zJ ?_))
 simp only [zQ]
 rw [qCo (ts := ts) e (i := i2) (j := j2) (by omega) (by omega)]
 case ho => omega
 case ho' => omega
 refine zT (ι := Nat × Nat × Array Nat) (j := (i2 + 1, j2 - 1, swp e i2 j2)) ⟨he, hde.swp (by omega) (by omega), by show a < i2 + 1; omega, by show a ≤ j2 - 1; omega, by show i2 + 1 ≤ j2 - 1 + 2; omega, by show j2 - 1 < b; omega⟩ (by show j2 - 1 + 1 - (i2 + 1) < j + 1 - i; omega) ⟨rfl, rfl, congrArg some (zX (by simp only; omega)), congrArg some (zX (by simp only; omega)), trivial⟩ uI
open Go.Sort in
theorem qPs (hE : Seat E) (hc : CmpT E ts q ok cf) {d : Array Nat} (hd : OkDT ok n d) {a b pv : Nat} (hap : a ≤ pv) (hpb : pv < b) (hb : b ≤ n) (hn : n < 1099511627776) :
  Ct E 110 [.slice (some ⟨g, 0, none⟩) n c, .int .i64 (a : Nat), .int .i64 (b : Nat), .int .i64 (pv : Nat)] [sl (some ⟨g, 0, none⟩) c 9 1 n (dCT ts d), q]
   (fun v Q => v = .tuple #[.int .i64 ((partition (ltFT cf) d a b pv).1 : Nat), .bool (partition (ltFT cf) d a b pv).2.1] ∧ Q = [sl (some ⟨g, 0, none⟩) c 9 1 n (dCT ts (partition (ltFT cf) d a b pv).2.2), q] ∧ OkDT ok n (partition (ltFT cf) d a b pv).2.2) := by
 have hs := hd.1
 have f2 := qAi (ts := ts) d (i := pv) (by omega) ((pv : Int)).toNat (by omega)
 have f3 := qAi (ts := ts) d (i := a) (by omega) ((a : Int)).toNat (by omega)
 obtain ⟨r, hr⟩ : ∃ r, r = partition (ltFT cf) d a b pv := ⟨_, rfl⟩
 have hr' := hr
 unfold partition at hr'
 simp only at hr'
 rw [← hr]
 refine zP (hE.fn Tryz.func110) rfl rfl rfl (fun R => ?_)
 simp only [qAe, uV, uW]
 refine qL (qJ (uA rfl (uA rfl (qM (qK (qL ?_))))))
 refine qAo 13 ([sl (some ⟨g, 0, none⟩) c 9 1 n (dCT ts d), q]) [(15, [])] ?_ ?_
 ·exact uI
 refine uP 0 rfl (qC rfl) ?_
 refine uP 1 rfl (qC rfl) ?_
 refine uP 2 rfl (qC rfl) ?_
 refine uP 3 rfl (qC rfl) ?_
 refine uP 4 rfl (qC rfl) ?_
 refine uP 5 rfl (qC rfl) ?_
 refine uP 6 rfl (uAj rfl rfl) ?_
 refine uQ 7 rfl (uY) ?_
 refine uP 8 rfl (qC rfl) ?_
 refine uP 9 rfl (qC rfl) ?_
 refine uP 10 rfl (uAj rfl rfl) ?_
 refine uQ 11 rfl (uY) ?_
 refine uP 12 rfl (uAj rfl rfl) ?_
 apply qBo rfl (by kernel_rfl) rfl
 refine uJ ?_
 refine uE ?_
 refine uP 14 rfl (uAj rfl rfl) ?_
 apply qBn rfl (by kernel_rfl) (by kernel_rfl) rfl
 refine uJ ?_
 refine qK (qL (qJ (uM rfl (uB (uAa rfl rfl) ?_))))
 refine uM rfl (uB (uAs rfl rfl) ?_)
 refine uA rfl (uA rfl (qM (qK ?_)))
 simp only [zQ]
 rw [qCo (ts := ts) d (i := a) (j := pv) (by omega) (by omega)]
 case ho => omega
 case ho' => omega
 refine w_eq 10 (.int .i64 ((a + 1 : Nat) : Int)) rfl (zX (by omega)) ?_
 refine w_eq 11 (.int .i64 ((b - 1 : Nat) : Int)) rfl (zX (by omega)) ?_
 have hd1 := hd.swp (show a < n by omega) (show pv < n by omega)
 generalize swp d a pv = d1 at *
 have hs1 := hd1.1
 obtain ⟨i1, hi1⟩ : ∃ i1, scanUp (fun x => ltFT cf x d1[a]!) d1 (b - 1) (a + 1) = i1 := ⟨_, rfl⟩
 rw [hi1] at hr'
 obtain ⟨j1, hj1⟩ : ∃ j1, scanDown (fun x => !ltFT cf x d1[a]!) d1 i1 (b - 1) = j1 := ⟨_, rfl⟩
 rw [hj1] at hr'
 refine qDs (fun _ : Unit => [(0, .slice (some ⟨g, 0, none⟩) n c), (1, .int .i64 (a : Nat)), (10, .int .i64 ((i1 : Nat) : Int)), (11, .int .i64 (((b - 1) : Nat) : Int))]) (fun _ => [sl (some ⟨g, 0, none⟩) c 9 1 n (dCT ts (d1)), q, R]) (fun _ => (a + 1) ≤ i1 ∧ i1 ≤ (b - 1) + 2) ?_ ?_
 ·refine zL ?_
  refine qAj (fun x : Nat => [(0, .slice (some ⟨g, 0, none⟩) n c), (1, .int .i64 (a : Nat)), (10, .int .i64 ((x : Nat) : Int)), (11, .int .i64 (((b - 1) : Nat) : Int))]) (fun _ => [sl (some ⟨g, 0, none⟩) c 9 1 n (dCT ts (d1)), q, R]) (fun x => (b - 1) + 1 - x) (fun x => scanUp (fun x => ltFT cf x (d1)[a]!) (d1) ((b - 1)) x = i1 ∧ (a + 1) ≤ x ∧ x ≤ (b - 1) + 2) ((a + 1)) ?_ ?_ ?_ ?_
  ·exact ⟨hi1, by omega, by omega⟩
  ·exact ⟨rfl, rfl, rfl, rfl, trivial⟩
  ·exact uI
  rintro x ⟨hx, hx1, hx2⟩
  refine qL (qL (qAw (by kernel_rfl) ?_))
  refine uM rfl (uM rfl (uB (y_le rfl rfl) ?_))
  refine uM rfl ?_
  refine qAl 33 rfl (fun sp => ?_) (fun sp => ?_)
  ·have f0 := qAi (ts := ts) (d1) (i := x) (by omega) ((x : Nat) : Int).toNat (by omega)
   have f1 := qAi (ts := ts) (d1) (i := a) (by omega) ((a : Nat) : Int).toNat (by omega)
   have hcc := hc _ _ (hd1.2 (x) (by omega)) (hd1.2 (a) (by omega))
   refine kQ rfl rfl (uM rfl (kQ rfl rfl (uM rfl (kQ rfl rfl (uB (uAj rfl rfl) ?_)))))
   refine kQ rfl rfl (uL ?_)
   refine kQ rfl rfl (uM rfl (kQ rfl rfl (uM rfl (kQ rfl rfl (uB (uAj rfl rfl) ?_)))))
   refine kQ rfl rfl (uL ?_)
   refine kQ rfl rfl (uX (hcc) rfl ?_)
   rintro _ _ ⟨rfl, rfl⟩
   simp only [uV, uW]
   refine uB (qY rfl rfl) ?_
   refine qM (qK ?_)
   refine zF rfl (fun gp => ?_) (fun gp => ?_)
   ·refine zC (qK (zL (qJ ?_)))
    refine uM rfl (uB (uAa rfl rfl) ?_)
    refine uA rfl (qM (zJ ?_))
    refine zT (x + 1) ⟨?_, by omega, by omega⟩ (by omega) ⟨rfl, rfl, congrArg some (zX (by omega)), rfl, trivial⟩ uI
    rw [← hx]
    conv => rhs; rw [scanUp, if_pos (by simp [ltFT, gp]; omega)]
   rw [scanUp, if_neg (by simp [ltFT, gp])] at hx
   rw [← hx]
   refine kJ (qQ (qQ (zI ?_)))
   refine qBd () (by omega) ⟨rfl, rfl, rfl, rfl, trivial⟩ uI
  rw [scanUp, if_neg (by simp; omega)] at hx
  rw [← hx]
  refine zU rfl rfl rfl rfl (zU rfl rfl rfl rfl (zU rfl rfl rfl rfl (zU rfl rfl rfl rfl (zU rfl rfl rfl rfl (zU rfl rfl rfl rfl (zU rfl rfl rfl rfl (zU rfl rfl rfl rfl ?_)))))))
  refine zU rfl rfl rfl rfl ?_
  refine uB (qZ rfl rfl) ?_
  refine qM (qK (zD rfl (kJ (qQ (qQ (zI ?_))))))
  refine qBd () (by omega) ⟨rfl, rfl, rfl, rfl, trivial⟩ uI
 rintro _ ⟨hi1a, hi1b⟩
 refine qDs (fun _ : Unit => [(0, .slice (some ⟨g, 0, none⟩) n c), (1, .int .i64 (a : Nat)), (10, .int .i64 ((i1 : Nat) : Int)), (11, .int .i64 ((j1 : Nat) : Int))]) (fun _ => [sl (some ⟨g, 0, none⟩) c 9 1 n (dCT ts (d1)), q, R]) (fun _ => a ≤ j1 ∧ j1 ≤ (b - 1)) ?_ ?_
 ·refine zL ?_
  refine qAj (fun x : Nat => [(0, .slice (some ⟨g, 0, none⟩) n c), (1, .int .i64 (a : Nat)), (10, .int .i64 ((i1 : Nat) : Int)), (11, .int .i64 ((x : Nat) : Int))]) (fun _ => [sl (some ⟨g, 0, none⟩) c 9 1 n (dCT ts (d1)), q, R]) (fun x => x) (fun x => scanDown (fun x => !ltFT cf x (d1)[a]!) (d1) (i1) x = j1 ∧ a ≤ x ∧ x ≤ (b - 1)) ((b - 1)) ?_ ?_ ?_ ?_
  ·exact ⟨hj1, by omega, by omega⟩
  ·exact ⟨rfl, rfl, rfl, rfl, trivial⟩
  ·exact uI
  rintro x ⟨hx, hx1, hx2⟩
  refine qL (qL (qAw (by kernel_rfl) ?_))
  refine uM rfl (uM rfl (uB (y_le rfl rfl) ?_))
  refine uM rfl ?_
  refine qAl 49 rfl (fun sq => ?_) (fun sq => ?_)
  ·obtain ⟨x, rfl⟩ : ∃ k, x = k + 1 := ⟨x - 1, by omega⟩
   have f0 := qAi (ts := ts) (d1) (i := x + 1) (by omega) ((x + 1 : Nat) : Int).toNat (by omega)
   have f1 := qAi (ts := ts) (d1) (i := a) (by omega) ((a : Nat) : Int).toNat (by omega)
   have hcc := hc _ _ (hd1.2 (x + 1) (by omega)) (hd1.2 (a) (by omega))
   refine kQ rfl rfl (uM rfl (kQ rfl rfl (uM rfl (kQ rfl rfl (uB (uAj rfl rfl) ?_)))))
   refine kQ rfl rfl (uL ?_)
   refine kQ rfl rfl (uM rfl (kQ rfl rfl (uM rfl (kQ rfl rfl (uB (uAj rfl rfl) ?_)))))
   refine kQ rfl rfl (uL ?_)
   refine kQ rfl rfl (uX (hcc) rfl ?_)
   rintro _ _ ⟨rfl, rfl⟩
   simp only [uV, uW]
   refine kQ rfl rfl (uB (qBm rfl) ?_)
   refine uB (qY rfl rfl) ?_
   refine qM (qK ?_)
   refine qBe rfl (fun gq => ?_) (fun gq => ?_)
   ·refine zC (qK (zL (qJ ?_)))
    refine uM rfl (uB (uAs rfl rfl) ?_)
    refine uA rfl (qM (zJ ?_))
    refine zT (x) ⟨?_, by omega, by omega⟩ (by omega) ⟨rfl, rfl, rfl, congrArg some (zX (by omega)), trivial⟩ uI
    rw [← hx]
    conv => rhs; rw [scanDown, if_pos (by simp [ltFT, gq]; omega)]
   rw [scanDown, if_neg (by simp [ltFT, gq])] at hx
   rw [← hx]
   refine kJ (qQ (qQ (zI ?_)))
   refine qBd () (by omega) ⟨rfl, rfl, rfl, rfl, trivial⟩ uI
  have hx' : x = j1 := by
   rw [← hx]
   cases x with
   | zero => rfl
   | succ x => rw [scanDown, if_neg (by simp; omega)]
  rw [← hx']
  refine zU rfl rfl rfl rfl (zU rfl rfl rfl rfl (zU rfl rfl rfl rfl (zU rfl rfl rfl rfl (zU rfl rfl rfl rfl (zU rfl rfl rfl rfl (zU rfl rfl rfl rfl (zU rfl rfl rfl rfl ?_)))))))
  refine zU rfl rfl rfl rfl (zU rfl rfl rfl rfl ?_)
  refine uB (qZ rfl rfl) ?_
  refine qM (qK (zD rfl (kJ (qQ (qQ (zI ?_))))))
  refine qBd () (by omega) ⟨rfl, rfl, rfl, rfl, trivial⟩ uI
 rintro _ ⟨hj1a, hj1b⟩
 refine qL (qL (qJ (uM rfl (uM rfl (uB (y_gt rfl rfl) ?_)))))
 refine qM (qK ?_)
 refine zF rfl (fun h6 => ?_) (fun h6 => ?_)
 ·rw [if_pos (by omega)] at hr'
  subst hr'
  have f4 := qAi (ts := ts) d1 (i := a) (by omega) ((a : Int)).toNat (by omega)
  have f5 := qAi (ts := ts) d1 (i := j1) (by omega) ((j1 : Int)).toNat (by omega)
  refine qL ?_
  refine qAo 13 ([sl (some ⟨g, 0, none⟩) c 9 1 n (dCT ts d1), q]) [(15, [])] ?_ ?_
  ·exact uI
  refine uP 0 rfl (qC rfl) ?_
  refine uP 1 rfl (qC rfl) ?_
  refine uP 2 rfl (qC rfl) ?_
  refine uP 3 rfl (qC rfl) ?_
  refine uP 4 rfl (qC rfl) ?_
  refine uP 5 rfl (qC rfl) ?_
  refine uP 6 rfl (uAj rfl rfl) ?_
  refine uQ 7 rfl (uY) ?_
  refine uP 8 rfl (qC rfl) ?_
  refine uP 9 rfl (qC rfl) ?_
  refine uP 10 rfl (uAj rfl rfl) ?_
  refine uQ 11 rfl (uY) ?_
  refine uP 12 rfl (uAj rfl rfl) ?_
  apply qBo rfl (by kernel_rfl) rfl
  refine uJ ?_
  refine uE ?_
  refine uP 14 rfl (uAj rfl rfl) ?_
  apply qBn rfl (by kernel_rfl) (by kernel_rfl) rfl
  refine uJ ?_
  refine qK (qL (qJ (uM rfl (uA rfl (uA rfl (qM (qK (kC (qX ?_)))))))))
  simp only [zQ]
  rw [qCo (ts := ts) d1 (i := j1) (j := a) (by omega) (by omega)]
  case ho => omega
  case ho' => omega
  exact uZ rfl (.tmp rfl (.tmp rfl .nil)) ⟨rfl, rfl, hd1.swp (by omega) (by omega)⟩
 rw [if_neg (by omega)] at hr'
 have f4 := qAi (ts := ts) d1 (i := i1) (by omega) ((i1 : Int)).toNat (by omega)
 have f5 := qAi (ts := ts) d1 (i := j1) (by omega) ((j1 : Int)).toNat (by omega)
 obtain ⟨u, hu⟩ : ∃ u, partLoop (ltFT cf) a (i1 + 1) (j1 - 1) (swp d1 i1 j1) = u := ⟨_, rfl⟩
 rw [hu] at hr'
 refine zC (qK (qL ?_))
 refine qAo 13 ([sl (some ⟨g, 0, none⟩) c 9 1 n (dCT ts d1), q]) [(15, [])] ?_ ?_
 ·exact uI
 refine uP 0 rfl (qC rfl) ?_
 refine uP 1 rfl (qC rfl) ?_
 refine uP 2 rfl (qC rfl) ?_
 refine uP 3 rfl (qC rfl) ?_
 refine uP 4 rfl (qC rfl) ?_
 refine uP 5 rfl (qC rfl) ?_
 refine uP 6 rfl (uAj rfl rfl) ?_
 refine uQ 7 rfl (uY) ?_
 refine uP 8 rfl (qC rfl) ?_
 refine uP 9 rfl (qC rfl) ?_
 refine uP 10 rfl (uAj rfl rfl) ?_
 refine uQ 11 rfl (uY) ?_
 refine uP 12 rfl (uAj rfl rfl) ?_
 apply qBo rfl (by kernel_rfl) rfl
 refine uJ ?_
 refine uE ?_
 refine uP 14 rfl (uAj rfl rfl) ?_
 apply qBn rfl (by kernel_rfl) (by kernel_rfl) rfl
 refine uJ ?_
 refine qK (qL (qJ (uM rfl (uB (uAa rfl rfl) ?_))))
 refine uA rfl (qM (qK (qL (qJ (uM rfl (uB (uAs rfl rfl) ?_))))))
 refine uA rfl (qM (qK (qL (zL ?_))))
 simp only [zQ]
 rw [qCo (ts := ts) d1 (i := i1) (j := j1) (by omega) (by omega)]
 case ho => omega
 case ho' => omega
 refine qAj (fun x : Nat × Nat × Array Nat => [(0, .slice (some ⟨g, 0, none⟩) n c), (1, .int .i64 (a : Nat)), (10, .int .i64 (x.1 : Nat)), (11, .int .i64 (x.2.1 : Nat))]) (fun x => [sl (some ⟨g, 0, none⟩) c 9 1 n (dCT ts x.2.2), q, R]) (fun x => x.2.1 + 1 - x.1) (fun x => partLoop (ltFT cf) a x.1 x.2.1 x.2.2 = u ∧ OkDT ok n x.2.2 ∧ a < x.1 ∧ a ≤ x.2.1 ∧ x.1 ≤ x.2.1 + 2 ∧ x.2.1 < b) (i1 + 1, j1 - 1, swp d1 i1 j1) ?_ ?_ ?_ ?_
 ·exact ⟨hu, hd1.swp (by omega) (by omega), by show a < i1 + 1; omega, by show a ≤ j1 - 1; omega, by show i1 + 1 ≤ j1 - 1 + 2; omega, by show j1 - 1 < b; omega⟩
 ·exact ⟨rfl, rfl, congrArg some (zX (by simp only; omega)), congrArg some (zX (by simp only; omega)), trivial⟩
 ·exact uI
 rintro ⟨i, j, e⟩ ⟨he, hde, hi, haj, hij, hj⟩
 simp only at he hde hi haj hij hj ⊢
 have hse := hde.1
 rw [partLoop_eq] at he
 obtain ⟨i2, hi2⟩ : ∃ i2, scanUp (fun x => ltFT cf x e[a]!) e j i = i2 := ⟨_, rfl⟩
 rw [hi2] at he
 obtain ⟨j2, hj2⟩ : ∃ j2, scanDown (fun x => !ltFT cf x e[a]!) e i2 j = j2 := ⟨_, rfl⟩
 rw [hj2] at he
 refine zL ?_
 refine qDs (fun _ : Unit => [(0, .slice (some ⟨g, 0, none⟩) n c), (1, .int .i64 (a : Nat)), (10, .int .i64 ((i2 : Nat) : Int)), (11, .int .i64 ((j : Nat) : Int))]) (fun _ => [sl (some ⟨g, 0, none⟩) c 9 1 n (dCT ts (e)), q, R]) (fun _ => i ≤ i2 ∧ i2 ≤ j + 2) ?_ ?_
 ·refine zL ?_
  refine qAj (fun x : Nat => [(0, .slice (some ⟨g, 0, none⟩) n c), (1, .int .i64 (a : Nat)), (10, .int .i64 ((x : Nat) : Int)), (11, .int .i64 ((j : Nat) : Int))]) (fun _ => [sl (some ⟨g, 0, none⟩) c 9 1 n (dCT ts (e)), q, R]) (fun x => j + 1 - x) (fun x => scanUp (fun x => ltFT cf x (e)[a]!) (e) (j) x = i2 ∧ i ≤ x ∧ x ≤ j + 2) (i) ?_ ?_ ?_ ?_
  ·exact ⟨hi2, by omega, by omega⟩
  ·exact ⟨rfl, rfl, rfl, rfl, trivial⟩
  ·exact uI
  rintro x ⟨hx, hx1, hx2⟩
  refine qL (qL (qAw (by kernel_rfl) ?_))
  refine uM rfl (uM rfl (uB (y_le rfl rfl) ?_))
  refine uM rfl ?_
  refine qAl 102 rfl (fun su => ?_) (fun su => ?_)
  ·have f0 := qAi (ts := ts) (e) (i := x) (by omega) ((x : Nat) : Int).toNat (by omega)
   have f1 := qAi (ts := ts) (e) (i := a) (by omega) ((a : Nat) : Int).toNat (by omega)
   have hcc := hc _ _ (hde.2 (x) (by omega)) (hde.2 (a) (by omega))
   refine kQ rfl rfl (uM rfl (kQ rfl rfl (uM rfl (kQ rfl rfl (uB (uAj rfl rfl) ?_)))))
   refine kQ rfl rfl (uL ?_)
   refine kQ rfl rfl (uM rfl (kQ rfl rfl (uM rfl (kQ rfl rfl (uB (uAj rfl rfl) ?_)))))
   refine kQ rfl rfl (uL ?_)
   refine kQ rfl rfl (uX (hcc) rfl ?_)
   rintro _ _ ⟨rfl, rfl⟩
   simp only [uV, uW]
   refine uB (qY rfl rfl) ?_
   refine qM (qK ?_)
   refine zF rfl (fun gu => ?_) (fun gu => ?_)
   ·refine zC (qK (zL (qJ ?_)))
    refine uM rfl (uB (uAa rfl rfl) ?_)
    refine uA rfl (qM (zJ ?_))
    refine zT (x + 1) ⟨?_, by omega, by omega⟩ (by omega) ⟨rfl, rfl, congrArg some (zX (by omega)), rfl, trivial⟩ uI
    rw [← hx]
    conv => rhs; rw [scanUp, if_pos (by simp [ltFT, gu]; omega)]
   rw [scanUp, if_neg (by simp [ltFT, gu])] at hx
   rw [← hx]
   refine kJ (qQ (qQ (zI ?_)))
   refine qBd () (by omega) ⟨rfl, rfl, rfl, rfl, trivial⟩ uI
  rw [scanUp, if_neg (by simp; omega)] at hx
  rw [← hx]
  refine zU rfl rfl rfl rfl (zU rfl rfl rfl rfl (zU rfl rfl rfl rfl (zU rfl rfl rfl rfl (zU rfl rfl rfl rfl (zU rfl rfl rfl rfl (zU rfl rfl rfl rfl (zU rfl rfl rfl rfl ?_)))))))
  refine zU rfl rfl rfl rfl ?_
  refine uB (qZ rfl rfl) ?_
  refine qM (qK (zD rfl (kJ (qQ (qQ (zI ?_))))))
  refine qBd () (by omega) ⟨rfl, rfl, rfl, rfl, trivial⟩ uI
 rintro _ ⟨hi2a, hi2b⟩
 refine qDs (fun _ : Unit => [(0, .slice (some ⟨g, 0, none⟩) n c), (1, .int .i64 (a : Nat)), (10, .int .i64 ((i2 : Nat) : Int)), (11, .int .i64 ((j2 : Nat) : Int))]) (fun _ => [sl (some ⟨g, 0, none⟩) c 9 1 n (dCT ts (e)), q, R]) (fun _ => a ≤ j2 ∧ j2 ≤ j) ?_ ?_
 ·refine zL ?_
  refine qAj (fun x : Nat => [(0, .slice (some ⟨g, 0, none⟩) n c), (1, .int .i64 (a : Nat)), (10, .int .i64 ((i2 : Nat) : Int)), (11, .int .i64 ((x : Nat) : Int))]) (fun _ => [sl (some ⟨g, 0, none⟩) c 9 1 n (dCT ts (e)), q, R]) (fun x => x) (fun x => scanDown (fun x => !ltFT cf x (e)[a]!) (e) (i2) x = j2 ∧ a ≤ x ∧ x ≤ j) (j) ?_ ?_ ?_ ?_
  ·exact ⟨hj2, by omega, by omega⟩
  ·exact ⟨rfl, rfl, rfl, rfl, trivial⟩
  ·exact uI
  rintro x ⟨hx, hx1, hx2⟩
  refine qL (qL (qAw (by kernel_rfl) ?_))
  refine uM rfl (uM rfl (uB (y_le rfl rfl) ?_))
  refine uM rfl ?_
  refine qAl 118 rfl (fun sw => ?_) (fun sw => ?_)
  ·obtain ⟨x, rfl⟩ : ∃ k, x = k + 1 := ⟨x - 1, by omega⟩
   have f0 := qAi (ts := ts) (e) (i := x + 1) (by omega) ((x + 1 : Nat) : Int).toNat (by omega)
   have f1 := qAi (ts := ts) (e) (i := a) (by omega) ((a : Nat) : Int).toNat (by omega)
   have hcc := hc _ _ (hde.2 (x + 1) (by omega)) (hde.2 (a) (by omega))
   refine kQ rfl rfl (uM rfl (kQ rfl rfl (uM rfl (kQ rfl rfl (uB (uAj rfl rfl) ?_)))))
   refine kQ rfl rfl (uL ?_)
   refine kQ rfl rfl (uM rfl (kQ rfl rfl (uM rfl (kQ rfl rfl (uB (uAj rfl rfl) ?_)))))
   refine kQ rfl rfl (uL ?_)
   refine kQ rfl rfl (uX (hcc) rfl ?_)
   rintro _ _ ⟨rfl, rfl⟩
   simp only [uV, uW]
   refine kQ rfl rfl (uB (qBm rfl) ?_)
   refine uB (qY rfl rfl) ?_
   refine qM (qK ?_)
   refine qBe rfl (fun gw => ?_) (fun gw => ?_)
   ·refine zC (qK (zL (qJ ?_)))
    refine uM rfl (uB (uAs rfl rfl) ?_)
    refine uA rfl (qM (zJ ?_))
    refine zT (x) ⟨?_, by omega, by omega⟩ (by omega) ⟨rfl, rfl, rfl, congrArg some (zX (by omega)), trivial⟩ uI
    rw [← hx]
    conv => rhs; rw [scanDown, if_pos (by simp [ltFT, gw]; omega)]
   rw [scanDown, if_neg (by simp [ltFT, gw])] at hx
   rw [← hx]
   refine kJ (qQ (qQ (zI ?_)))
   refine qBd () (by omega) ⟨rfl, rfl, rfl, rfl, trivial⟩ uI
  have hx' : x = j2 := by
   rw [← hx]
   cases x with
   | zero => rfl
   | succ x => rw [scanDown, if_neg (by simp; omega)]
  rw [← hx']
  refine zU rfl rfl rfl rfl (zU rfl rfl rfl rfl (zU rfl rfl rfl rfl (zU rfl rfl rfl rfl (zU rfl rfl rfl rfl (zU rfl rfl rfl rfl (zU rfl rfl rfl rfl (zU rfl rfl rfl rfl ?_)))))))
  refine zU rfl rfl rfl rfl (zU rfl rfl rfl rfl ?_)
  refine uB (qZ rfl rfl) ?_
  refine qM (qK (zD rfl (kJ (qQ (qQ (zI ?_))))))
  refine qBd () (by omega) ⟨rfl, rfl, rfl, rfl, trivial⟩ uI
 rintro _ ⟨hj2a, hj2b⟩
 refine qL (qL (qJ (uM rfl (uM rfl (uB (y_gt rfl rfl) ?_)))))
 refine qM (qK ?_)
 refine zF rfl (fun h7 => ?_) (fun h7 => ?_)
 ·rw [if_pos (by omega)] at he
  subst he
  subst hr'
  have f6 := qAi (ts := ts) e (i := a) (by omega) ((a : Int)).toNat (by omega)
  have f7 := qAi (ts := ts) e (i := j2) (by omega) ((j2 : Int)).toNat (by omega)
  refine kJ (qQ (qBx rfl (qQ (zI (qK ?_)))))
  refine qL ?_
  refine qAo 13 ([sl (some ⟨g, 0, none⟩) c 9 1 n (dCT ts e), q]) [(15, [])] ?_ ?_
  ·exact uI
  refine uP 0 rfl (qC rfl) ?_
  refine uP 1 rfl (qC rfl) ?_
  refine uP 2 rfl (qC rfl) ?_
  refine uP 3 rfl (qC rfl) ?_
  refine uP 4 rfl (qC rfl) ?_
  refine uP 5 rfl (qC rfl) ?_
  refine uP 6 rfl (uAj rfl rfl) ?_
  refine uQ 7 rfl (uY) ?_
  refine uP 8 rfl (qC rfl) ?_
  refine uP 9 rfl (qC rfl) ?_
  refine uP 10 rfl (uAj rfl rfl) ?_
  refine uQ 11 rfl (uY) ?_
  refine uP 12 rfl (uAj rfl rfl) ?_
  apply qBo rfl (by kernel_rfl) rfl
  refine uJ ?_
  refine uE ?_
  refine uP 14 rfl (uAj rfl rfl) ?_
  apply qBn rfl (by kernel_rfl) (by kernel_rfl) rfl
  refine uJ ?_
  refine qK (qL (qJ (uM rfl (uA rfl (uA rfl (qM (qK (kC ?_))))))))
  simp only [zQ]
  rw [qCo (ts := ts) e (i := j2) (j := a) (by omega) (by omega)]
  case ho => omega
  case ho' => omega
  exact uZ rfl (.tmp rfl (.tmp rfl .nil)) ⟨rfl, rfl, hde.swp (by omega) (by omega)⟩
 rw [if_neg (by omega)] at he
 have f6 := qAi (ts := ts) e (i := i2) (by omega) ((i2 : Int)).toNat (by omega)
 have f7 := qAi (ts := ts) e (i := j2) (by omega) ((j2 : Int)).toNat (by omega)
 refine zC (qK (qL ?_))
 refine qAo 13 ([sl (some ⟨g, 0, none⟩) c 9 1 n (dCT ts e), q]) [(15, [])] ?_ ?_
 ·exact uI
 refine uP 0 rfl (qC rfl) ?_
 refine uP 1 rfl (qC rfl) ?_
 refine uP 2 rfl (qC rfl) ?_
 refine uP 3 rfl (qC rfl) ?_
 refine uP 4 rfl (qC rfl) ?_
 refine uP 5 rfl (qC rfl) ?_
 refine uP 6 rfl (uAj rfl rfl) ?_
 refine uQ 7 rfl (uY) ?_
 refine uP 8 rfl (qC rfl) ?_
 refine uP 9 rfl (qC rfl) ?_
 refine uP 10 rfl (uAj rfl rfl) ?_
 refine uQ 11 rfl (uY) ?_
 refine uP 12 rfl (uAj rfl rfl) ?_
 apply qBo rfl (by kernel_rfl) rfl
 refine uJ ?_
 refine uE ?_
 refine uP 14 rfl (uAj rfl rfl) ?_
 apply qBn rfl (by kernel_rfl) (by kernel_rfl) rfl
 refine uJ ?_
 refine qK (qL (qJ (uM rfl (uB (uAa rfl rfl) ?_))))
 refine uA rfl (qM (qK (qJ (uM rfl (uB (uAs rfl rfl) ?_)))))
 refine uA rfl (qM (zJ ?_))
 simp only [zQ]
 rw [qCo (ts := ts) e (i := i2) (j := j2) (by omega) (by omega)]
 case ho => omega
 case ho' => omega
 refine zT (ι := Nat × Nat × Array Nat) (j := (i2 + 1, j2 - 1, swp e i2 j2)) ⟨he, hde.swp (by omega) (by omega), by show a < i2 + 1; omega, by show a ≤ j2 - 1; omega, by show i2 + 1 ≤ j2 - 1 + 2; omega, by show j2 - 1 < b; omega⟩ (by show j2 - 1 + 1 - (i2 + 1) < j + 1 - i; omega) ⟨rfl, rfl, congrArg some (zX (by simp only; omega)), congrArg some (zX (by simp only; omega)), trivial⟩ uI
end
end Go.Proofs.YtddfnkijolfhbaaGreat
namespace Sl
open Go Go.RowKit
variable {E : Env} {n : Nat} {L : Fr} {S : List HP} {ty : TypeId} {pos : String} {af : Array Edge} {d : Option Nat} {gd : Option (Nat × Bool)}
theorem qRf {x y : Operand} {xt yt : TypeId} {i j : Nat} {ky : IntKind} (hx : ev L x = some (.int .u64 (i : Nat))) (hy : ev L y = some (.int ky (j : Nat))) (hj : j ≤ 64) :
  Yl E n L S ⟨d, .binOp .shl xt x y yt, ty, pos, af, gd⟩ (.int .u64 ((i * 2 ^ j % 18446744073709551616 : Nat) : Int)) := fun a w g _ => by
 have h := shift_shl_any .u64 ky (i : Int) ((j : Nat) : Int) (Int.natCast_nonneg j)
 have e : IntKind.u64.wrap ((i : Int) * 2 ^ min ((j : Nat) : Int).toNat IntKind.u64.bits) = ((i * 2 ^ j % 18446744073709551616 : Nat) : Int) := by
  rw [Int.toNat_natCast, show min j IntKind.u64.bits = j from Nat.min_eq_left hj, IntKind.wrap_u64, Int.natCast_emod, Int.natCast_mul, Int.natCast_pow]; rfl
 rw [e] at h
 simp [execOp, eqGuard, binOp, g.ev hx, g.ev hy, h]
 exact IntKind.wrap_u64 _
theorem qRi {x y : Operand} {xt yt : TypeId} {i j : Nat} (hx : ev L x = some (.int .u64 (i : Nat))) (hy : ev L y = some (.int .u64 (j : Nat))) (hi : i < 18446744073709551616) (hj : j < 18446744073709551616) :
  Yl E n L S ⟨d, .binOp .xor xt x y yt, ty, pos, af, gd⟩ (.int .u64 ((i ^^^ j : Nat) : Int)) := fun a w g _ => by
 have h := bits_xor_u64_nat i j hi hj
 simp [execOp, eqGuard, binOp, Op.intBits, g.ev hx, g.ev hy]
 exact h
theorem y_and64T {x y : Operand} {xt yt : TypeId} {i j : Nat} (hx : ev L x = some (.int .u64 (i : Nat))) (hy : ev L y = some (.int .u64 (j : Nat))) (hi : i < 18446744073709551616) (hj : j < 18446744073709551616) :
  Yl E n L S ⟨d, .binOp .and xt x y yt, ty, pos, af, gd⟩ (.int .u64 ((i &&& j : Nat) : Int)) := fun a w g _ => by
 have h := bits_and_u64_nat i j hi hj
 simp [execOp, eqGuard, binOp, Op.intBits, g.ev hx, g.ev hy]
 exact h
theorem y_sub64T {x y : Operand} {xt yt : TypeId} {i j : Nat} (hx : ev L x = some (.int .u64 (i : Nat))) (hy : ev L y = some (.int .u64 (j : Nat))) (hi : i < 18446744073709551616) (hj : j ≤ i) :
  Yl E n L S ⟨d, .binOp .sub xt x y yt, ty, pos, af, gd⟩ (.int .u64 ((i - j : Nat) : Int)) := fun a w g _ => by
 have h : IntKind.u64.wrap ((i : Int) - j) = ((i - j : Nat) : Int) := by rw [IntKind.wrap_u64]; omega
 simp [execOp, eqGuard, binOp, Op.intArith, g.ev hx, g.ev hy]
 exact h
end Sl
namespace Go.Proofs.YtddfnkijolfhbaaGreat
open Go Go.RowKit Sl Eg
set_option maxRecDepth 10000
section
variable {E : Env}
variable {ts : Nat → List UInt8} {q : HP} {ok : Nat → Prop} {cf : Nat → Nat → Int} {g c n : Nat}
def zBw : ByteArray := ⟨([0, 1] ++ (List.replicate 2 2 ++ (List.replicate 4 3 ++ (List.replicate 8 4 ++ (List.replicate 16 5 ++ (List.replicate 32 6 ++ (List.replicate 64 7 ++ List.replicate 128 8)))))) : List UInt8).toArray⟩
theorem zBy : (List.range 256).all (fun k => match zBw[k]? with | some c => Nat.beq c.toNat (Go.Sort.bitsLen k) | none => false) = true := by decide +kernel
theorem qWc {k : Nat} (h : k < 256) : ∃ c, zBw[k]? = some c ∧ c.toNat = Go.Sort.bitsLen k := by
 have h := List.all_eq_true.1 zBy k (List.mem_range.2 h)
 cases e : zBw[k]? with
 | none => rw [e] at h; simp at h
 | some c => rw [e] at h; exact ⟨c, rfl, Nat.eq_of_beq_eq_true h⟩
theorem qWh {i : Nat} (h : i < 256) : IntKind.u8.wrap ((i : Nat) : Int) = (i : Nat) := by
 simp [IntKind.wrap, IntKind.bits, IntKind.signed]
 omega
theorem qRm (k : Nat) (h : 256 ≤ k) : Go.Sort.bitsLen k = 8 + Go.Sort.bitsLen (k / 2 ^ 8) := by
 apply Nat.le_antisymm
 ·rw [Go.Sort.bitsLen_le_iff]
  have := Go.Sort.lt_two_pow_bitsLen (k / 2 ^ 8)
  rw [Nat.pow_add]
  have h2 : k = 2 ^ 8 * (k / 2 ^ 8) + k % 2 ^ 8 := (Nat.div_add_mod k (2 ^ 8)).symm
  have h3 := Nat.mod_lt k (show 2 ^ 8 > 0 by decide)
  have h4 : 2 ^ 8 * (k / 2 ^ 8 + 1) ≤ 2 ^ 8 * 2 ^ Go.Sort.bitsLen (k / 2 ^ 8) := Nat.mul_le_mul_left _ this
  rw [Nat.mul_add] at h4
  omega
 have h9 : 8 ≤ Go.Sort.bitsLen k := by
  apply Classical.byContradiction
  intro hh
  have := (Go.Sort.bitsLen_le_iff k 7).1 (by omega)
  omega
 have : Go.Sort.bitsLen (k / 2 ^ 8) ≤ Go.Sort.bitsLen k - 8 := by
  rw [Go.Sort.bitsLen_le_iff]
  have := Go.Sort.lt_two_pow_bitsLen k
  apply Nat.div_lt_of_lt_mul
  rw [← Nat.pow_add, show 8 + (Go.Sort.bitsLen k - 8) = Go.Sort.bitsLen k by omega]
  exact this
 omega
theorem qWs (hE : Seat E) {k : Nat} (h2 : k < 65536) : Ct E 112 [.int .u64 (k : Nat)] [] (fun v Q => v = .int .i64 (Go.Sort.bitsLen k : Nat) ∧ Q = []) := by
 refine zP (hE.fn Tryz.func112) rfl rfl rfl (fun R => ?_)
 simp only [qAe, uV, uW]
 refine qL (qJ (uA rfl (qM (qK (qL (qL (qJ (uM rfl (uB (y_ge rfl rfl) ?_)))))))))
 refine qM (qK ?_)
 refine zF rfl (fun g1 => ?_) (fun g1 => ?_)
 ·exfalso; omega
 refine zC (qK (qL (qL (qJ (uM rfl (uB (y_ge rfl rfl) ?_))))))
 refine qM (qK ?_)
 refine zF rfl (fun g2 => ?_) (fun g2 => ?_)
 ·exfalso; omega
 refine zC (qK (qL (qL (qJ (uM rfl (uB (y_ge rfl rfl) ?_))))))
 refine qM (qK ?_)
 refine zF rfl (fun g3 => ?_) (fun g3 => ?_)
 ·refine qL (qJ ?_)
  refine uM rfl (uB (qFs (j := 8) rfl rfl (by decide)) ?_)
  have hk : k / 2 ^ 8 < 256 := by omega
  obtain ⟨ch, f0, hcn⟩ := qWc hk
  have hcb := ch.toNat_lt
  refine uA rfl (qM (qK (qJ (uM rfl (uB (uAa rfl rfl) ?_)))))
  refine uA rfl (qM (qK (qL (qJ (uM rfl (uM rfl (uB (kM rfl (hE.t rfl) (hE.t rfl) (qWh hk)) ?_)))))))
  refine uB (qHu (bs := zBw) rfl rfl (hE.t rfl) (by omega) f0) ?_
  refine uB (kM (i := (ch.toNat : Int)) rfl (hE.t rfl) (hE.t rfl) (kN (by omega) (by omega))) ?_
  refine uB (zCn (j := (ch.toNat : Int)) rfl rfl (by omega) (by omega)) ?_
  refine uA rfl (qM (qK (kC ?_)))
  exact uZ rfl (.tmp rfl .nil) ⟨by rw [hcn, qRm k (by omega)]; exact zX (by omega), rfl⟩
 obtain ⟨ch, f0, hcn⟩ := qWc (k := k) (by omega)
 have hcb := ch.toNat_lt
 refine zC (qK (qL (qJ (uM rfl (uM rfl (uB (kM rfl (hE.t rfl) (hE.t rfl) (qWh (by omega))) ?_))))))
 refine uB (qHu (bs := zBw) rfl rfl (hE.t rfl) (by omega) f0) ?_
 refine uB (kM (i := (ch.toNat : Int)) rfl (hE.t rfl) (hE.t rfl) (kN (by omega) (by omega))) ?_
 refine uB (zCn (j := (ch.toNat : Int)) rfl rfl (by omega) (by omega)) ?_
 refine uA rfl (qM (qK (kC ?_)))
 exact uZ rfl (.tmp rfl .nil) ⟨by rw [hcn]; exact zX (by omega), rfl⟩
theorem qIa (hE : Seat E) {k : Nat} (h2 : k < 65536) : Ct E 73 [.int .u64 (k : Nat)] [] (fun v Q => v = .int .i64 (Go.Sort.bitsLen k : Nat) ∧ Q = []) := by
 refine zP (hE.fn Tryz.func73) rfl rfl rfl (fun R => ?_)
 simp only [qAe, uV, uW]
 refine qL (qJ (uA rfl (qM (qK (qL (zD rfl (zC (qK (qL (qJ (uM rfl (uX (qWs hE h2) rfl ?_))))))))))))
 rintro _ _ ⟨rfl, rfl⟩
 simp only [uV, uW]
 refine uA rfl (qM (qK (kC ?_)))
 exact uZ rfl (.tmp rfl .nil) ⟨rfl, rfl⟩
theorem qFt {k : Nat} (h : k < 65536) : Go.Sort.bitsLen k ≤ 16 := (Go.Sort.bitsLen_le_iff k 16).2 h
theorem qUc (hE : Seat E) {k : Nat} (h2 : k < 65536) : Ct E 141 [.int .i64 (k : Nat)] [] (fun v Q => v = .int .u64 ((1 <<< Go.Sort.bitsLen k : Nat) : Int) ∧ Q = []) := by
 have hb := qFt h2
 have hp : 2 ^ Go.Sort.bitsLen k ≤ 2 ^ 16 := Nat.pow_le_pow_right (by decide) hb
 refine zP (hE.fn Tryz.func141) rfl rfl rfl (fun R => ?_)
 simp only [qAe, uV, uW]
 refine qL (qJ (uA rfl (qM (qK (qL (qJ (uM rfl (uB (uAc rfl) ?_))))))))
 refine uX (qIa hE h2) rfl ?_
 rintro _ _ ⟨rfl, rfl⟩
 simp only [uV, uW]
 refine uB (qRf (i := 1) rfl rfl (by omega)) ?_
 refine uA rfl (qM (qK (kC ?_)))
 exact uZ rfl (.tmp rfl .nil) ⟨zX (by rw [Nat.shiftLeft_eq, Nat.mod_eq_of_lt (by omega)]), rfl⟩
theorem qUj (hE : Seat E) {r X : Nat} (hX : X < 18446744073709551616) : Ct E 142 [uPt r] [cells r [.int .u64 (X : Nat)] 229] (fun v Q => v = .int .u64 ((Go.Sort.xorNextN X : Nat) : Int) ∧ Q = [cells r [.int .u64 ((Go.Sort.xorNextN X : Nat) : Int)] 229]) := by
 obtain ⟨A, hA⟩ : ∃ A : Nat, A = X ^^^ (X * 8192 % 18446744073709551616) := ⟨_, rfl⟩
 obtain ⟨B, hB⟩ : ∃ B : Nat, B = A ^^^ (A / 128) := ⟨_, rfl⟩
 obtain ⟨C, hC⟩ : ∃ C : Nat, C = B ^^^ (B * 131072 % 18446744073709551616) := ⟨_, rfl⟩
 have lA : A < 18446744073709551616 := by rw [hA]; exact Nat.xor_lt_two_pow (n := 64) (by omega) (by omega)
 have lB : B < 18446744073709551616 := by rw [hB]; exact Nat.xor_lt_two_pow (n := 64) (by omega) (by omega)
 have hv : Go.Sort.xorNextN X = C := by unfold Go.Sort.xorNextN; simp only []; rw [← hA, ← hB, ← hC]
 rw [hv]
 refine zP (hE.fn Tryz.func142) rfl rfl rfl (fun R => ?_)
 simp only [qAe, uV, uW]
 refine qL (qJ (uA rfl ?_))
 refine qM (qK (qL (qAw (by kernel_rfl) ?_)))
 refine uM rfl (uB (zB rfl) ?_)
 refine uL ?_
 refine uM rfl (uB (zB rfl) ?_)
 refine uL ?_
 refine uB (qRf (i := X) (j := 13) rfl rfl (by decide)) ?_
 refine uB (qRi (i := X) (j := X * 2 ^ 13 % 18446744073709551616) rfl rfl hX (by omega)) ?_
 refine l_eq 10 (.int .u64 ((A : Nat) : Int)) rfl (zX (by rw [hA])) ?_
 refine uB (zB rfl) ?_
 refine uU (uS ?_)
 refine qM (qK (qL (qAw (by kernel_rfl) ?_)))
 refine uM rfl (uB (zB rfl) ?_)
 refine uL ?_
 refine uM rfl (uB (zB rfl) ?_)
 refine uL ?_
 refine uB (qFs (i := A) (j := 7) rfl rfl (by decide)) ?_
 refine uB (qRi (i := A) (j := A / 2 ^ 7) rfl rfl lA (by omega)) ?_
 refine l_eq 19 (.int .u64 ((B : Nat) : Int)) rfl (zX (by rw [hB])) ?_
 refine uB (zB rfl) ?_
 refine uU (uS ?_)
 refine qM (qK (qL (qAw (by kernel_rfl) ?_)))
 refine uM rfl (uB (zB rfl) ?_)
 refine uL ?_
 refine uM rfl (uB (zB rfl) ?_)
 refine uL ?_
 refine uB (qRf (i := B) (j := 17) rfl rfl (by decide)) ?_
 refine uB (qRi (i := B) (j := B * 2 ^ 17 % 18446744073709551616) rfl rfl lB (by omega)) ?_
 refine l_eq 28 (.int .u64 ((C : Nat) : Int)) rfl (zX (by rw [hC])) ?_
 refine uB (zB rfl) ?_
 refine uU (uS ?_)
 refine qM (qK (qL (qJ (uM rfl (uB (zB rfl) ?_)))))
 refine uL ?_
 refine uA rfl (qM (qK (kC ?_)))
 exact uZ rfl (.tmp rfl .nil) ⟨rfl, rfl⟩
def brkT (a l m i0 : Nat) (d : Array Nat) : Nat → UInt64 × Array Nat
 | 0 => (UInt64.ofNat l, d)
 | t + 1 => Go.Sort.breakStep a l m (brkT a l m i0 d t) (i0 + t)
theorem brk_eqT {d : Array Nat} {a b : Nat} (h : b - a ≥ 8) : Go.Sort.breakPatterns d a b = (brkT a (b - a) (1 <<< Go.Sort.bitsLen (b - a)) (a + (b - a) / 4 * 2 - 1) d 3).2 := by
 unfold Go.Sort.breakPatterns
 simp only [if_pos h]
 rfl
open Go.Sort in
theorem qJp (hE : Seat E) {d : Array Nat} (hd : OkDT ok n d) {a b : Nat} (hab : a + 12 < b) (hb : b ≤ n) (hn : n < 65536) :
  Ct E 104 [.slice (some ⟨g, 0, none⟩) n c, .int .i64 (a : Nat), .int .i64 (b : Nat)] [sl (some ⟨g, 0, none⟩) c 9 1 n (dCT ts d), q]
   (fun v Q => v = .tuple #[] ∧ Q = [sl (some ⟨g, 0, none⟩) c 9 1 n (dCT ts (breakPatterns d a b)), q] ∧ OkDT ok n (breakPatterns d a b)) := by
 have e0 := brk_eqT (d := d) (a := a) (b := b) (by omega)
 obtain ⟨l, hl⟩ : ∃ l, l = b - a := ⟨_, rfl⟩
 obtain ⟨i0, hi0⟩ : ∃ i0, i0 = a + l / 4 * 2 - 1 := ⟨_, rfl⟩
 rw [← hl, ← hi0] at e0
 have hl16 := qFt (k := l) (by omega)
 have hlp := lt_two_pow_bitsLen l
 have hlq := two_pow_bitsLen_le (n := l) (by omega)
 have hm0 : 1 <<< bitsLen l = 2 ^ bitsLen l := by rw [Nat.shiftLeft_eq, Nat.one_mul]
 obtain ⟨m, hm⟩ : ∃ m, m = 1 <<< bitsLen l := ⟨_, rfl⟩
 have hml : l < m ∧ m ≤ 2 * l := by rw [hm, hm0]; exact ⟨hlp, hlq⟩
 rw [← hm] at e0
 rw [e0]
 have h64 : (UInt64.ofNat l).toNat = l := by simp; omega
 refine zP (hE.fn Tryz.func104) rfl rfl rfl (fun R => ?_)
 simp only [qAe, uV, uW]
 refine qL (qJ (uM rfl (uM rfl (uB (uAs rfl rfl) ?_))))
 refine uA rfl (qM (qK ?_))
 refine w_eq 6 (.int .i64 ((l : Nat) : Int)) rfl (zX (by omega)) ?_
 refine qL (qJ (uM rfl (uB (y_ge rfl rfl) ?_)))
 refine qM (qK ?_)
 refine zF rfl (fun h0 => ?_) (fun h0 => ?_)
 ·refine qL (qJ ?_)
  refine uM rfl (uB (uAc rfl) ?_)
  refine uU (kG (hE.t rfl) (fun b7 => ?_))
  refine uU (uS ?_)
  refine qM (qK (qL (qJ (uM rfl (uX (qUc (k := l) hE (by omega)) rfl ?_)))))
  rintro _ _ ⟨rfl, rfl⟩
  simp only [uV, uW]
  refine uA rfl (qM (qK (qL (qJ (uM rfl (uM rfl (uB (qHe rfl rfl (by omega) (by omega) (by omega)) ?_)))))))
  refine uB (qJn rfl rfl (by omega) (by omega)) ?_
  refine uB (uAa rfl rfl) ?_
  refine uB (uAs rfl rfl) ?_
  refine uA rfl (qM (qK ?_))
  refine w_eq 9 (.int .i64 ((i0 : Nat) : Int)) rfl (zX (by omega)) ?_
  refine w_eq 8 (.int .u64 ((m : Nat) : Int)) rfl (zX (by rw [hm])) ?_
  refine zL ?_
  refine qAj (fun t : Nat => [(0, .slice (some ⟨g, 0, none⟩) n c), (1, .int .i64 (a : Nat)), (6, .int .i64 (l : Nat)), (7, uPt b7), (8, .int .u64 (m : Nat)), (9, .int .i64 ((i0 + t : Nat) : Int))]) (fun t => [cells b7 [.int .u64 (((brkT a l m i0 d t).1.toNat : Nat) : Int)] 229, sl (some ⟨g, 0, none⟩) c 9 1 n (dCT ts (brkT a l m i0 d t).2), q, R]) (fun t => 3 - t) (fun t => t ≤ 3 ∧ OkDT ok n (brkT a l m i0 d t).2) 0 ?_ ?_ ?_ ?_
  ·exact ⟨by omega, hd⟩
  ·exact ⟨rfl, rfl, rfl, rfl, rfl, rfl, trivial⟩
  ·show ∀ k, _ → qAd [cells b7 [.int .u64 (((UInt64.ofNat l).toNat : Nat) : Int)] 229, sl (some ⟨g, 0, none⟩) c 9 1 n (dCT ts d), q, R] k
   rw [h64]
   exact uI
  rintro t ⟨ht, hdt⟩
  refine qL (qL (qJ (uM rfl (uM rfl (uM rfl (uB (qHe rfl rfl (by omega) (by omega) (by omega)) ?_))))))
  refine uB (qJn rfl rfl (by omega) (by omega)) ?_
  refine uB (uAa rfl rfl) ?_
  refine uB (uAa rfl rfl) ?_
  refine uB (y_le rfl rfl) ?_
  refine qM (qK ?_)
  refine zF rfl (fun h1 => ?_) (fun h1 => ?_)
  ·have hx := (brkT a l m i0 d t).1.toNat_lt
   have hxn := xorNextN_lt _ hx
   have hts := hdt.1
   obtain ⟨o, ho⟩ : ∃ o, o = xorNextN (brkT a l m i0 d t).1.toNat &&& (m - 1) := ⟨_, rfl⟩
   have hom : o ≤ m - 1 := by rw [ho]; exact Nat.and_le_right
   have hst : ∀ o', o' = (if o ≥ l then o - l else o) → brkT a l m i0 d (t + 1) = (xorNext (brkT a l m i0 d t).1, swp (brkT a l m i0 d t).2 (i0 + t) (a + o')) := by
    intro o' h'
    subst h'
    show breakStep a l m (brkT a l m i0 d t) (i0 + t) = _
    unfold breakStep
    simp only
    rw [xorNext_toNat, ← ho]
   refine zC (qK (qL (zL (qL (qJ (uX (qUj hE hx) rfl ?_))))))
   rintro _ _ ⟨rfl, rfl⟩
   simp only [uV, uW]
   refine uM rfl (uB (y_sub64T (i := m) (j := 1) rfl rfl (by omega) (by omega)) ?_)
   refine uB (y_and64T (i := xorNextN (brkT a l m i0 d t).1.toNat) (j := m - 1) rfl rfl hxn (by omega)) ?_
   refine l_eq 39 (.int .u64 ((o : Nat) : Int)) rfl (zX (by rw [ho])) ?_
   refine uB (kM rfl (hE.t rfl) (hE.t rfl) (kN (by omega) (by omega))) ?_
   refine uA rfl (qM (qK (qL (qL (qJ (uM rfl (uM rfl (uB (y_ge rfl rfl) ?_))))))))
   refine qM (qK ?_)
   refine zF rfl (fun h2 => ?_) (fun h2 => ?_)
   ·refine qJ ?_
    refine uM rfl (uM rfl (uB (uAs rfl rfl) ?_))
    refine uA rfl (qM (qK ?_))
    refine w_eq 10 (.int .i64 (((o - l) : Nat) : Int)) rfl (zX (by omega)) ?_
    have hs := hst ((o - l)) (by rw [if_pos (show o ≥ l by omega)])
    have f0 := qAi (ts := ts) (brkT a l m i0 d t).2 (i := i0 + t) (by omega) (((i0 + t : Nat) : Int)).toNat (by omega)
    have f1 := qAi (ts := ts) (brkT a l m i0 d t).2 (i := a + ((o - l))) (by omega) ((a : Int) + (((o - l) : Nat) : Int)).toNat (by omega)
    refine qAo 17 ([sl (some ⟨g, 0, none⟩) c 9 1 n (dCT ts ((brkT a l m i0 d t).2)), q]) [(19, [])] ?_ ?_
    ·exact uI
    refine uP 0 rfl (qC rfl) ?_
    refine uP 1 rfl (qC rfl) ?_
    refine uP 2 rfl (qC rfl) ?_
    refine uP 3 rfl (qC rfl) ?_
    refine uP 4 rfl (qC rfl) ?_
    refine uP 5 rfl (uAa rfl rfl) ?_
    refine uP 6 rfl (qC rfl) ?_
    refine uP 7 rfl (qC rfl) ?_
    refine uP 8 rfl (qC rfl) ?_
    refine uP 9 rfl (uAa rfl rfl) ?_
    refine uP 10 rfl (uAj rfl rfl) ?_
    refine uQ 11 rfl (uY) ?_
    refine uP 12 rfl (qC rfl) ?_
    refine uP 13 rfl (qC rfl) ?_
    refine uP 14 rfl (uAj rfl rfl) ?_
    refine uQ 15 rfl (uY) ?_
    refine uP 16 rfl (uAj rfl rfl) ?_
    apply qBo rfl (by kernel_rfl) rfl
    refine uJ ?_
    refine uE ?_
    refine uP 18 rfl (uAj rfl rfl) ?_
    apply qBn rfl (by kernel_rfl) (by kernel_rfl) rfl
    refine uJ ?_
    refine zJ (qK (qJ (uM rfl (uB (uAa rfl rfl) ?_))))
    refine uA rfl (qM ?_)
    simp only [zQ]
    rw [qCo (ts := ts) (brkT a l m i0 d t).2 (i := (i0 + t)) (j := (a + ((o - l)))) (by omega) (by omega)]
    case ho => omega
    case ho' => omega
    refine zT (t + 1) ⟨by omega, ?_⟩ (by omega) ⟨rfl, rfl, rfl, rfl, rfl, congrArg some (zX (by omega)), trivial⟩ ?_
    ·rw [hs]
     exact hdt.swp (by omega) (by omega)
    rw [hs, xorNext_toNat]
    exact uI
   refine zC (qK ?_)
   refine w_eq 10 (.int .i64 ((o : Nat) : Int)) rfl (zX (by omega)) ?_
   have hs := hst (o) (by rw [if_neg (show ¬ o ≥ l by omega)])
   have f0 := qAi (ts := ts) (brkT a l m i0 d t).2 (i := i0 + t) (by omega) (((i0 + t : Nat) : Int)).toNat (by omega)
   have f1 := qAi (ts := ts) (brkT a l m i0 d t).2 (i := a + (o)) (by omega) ((a : Int) + ((o : Nat) : Int)).toNat (by omega)
   refine qAo 17 ([sl (some ⟨g, 0, none⟩) c 9 1 n (dCT ts ((brkT a l m i0 d t).2)), q]) [(19, [])] ?_ ?_
   ·exact uI
   refine uP 0 rfl (qC rfl) ?_
   refine uP 1 rfl (qC rfl) ?_
   refine uP 2 rfl (qC rfl) ?_
   refine uP 3 rfl (qC rfl) ?_
   refine uP 4 rfl (qC rfl) ?_
   refine uP 5 rfl (uAa rfl rfl) ?_
   refine uP 6 rfl (qC rfl) ?_
   refine uP 7 rfl (qC rfl) ?_
   refine uP 8 rfl (qC rfl) ?_
   refine uP 9 rfl (uAa rfl rfl) ?_
   refine uP 10 rfl (uAj rfl rfl) ?_
   refine uQ 11 rfl (uY) ?_
   refine uP 12 rfl (qC rfl) ?_
   refine uP 13 rfl (qC rfl) ?_
   refine uP 14 rfl (uAj rfl rfl) ?_
   refine uQ 15 rfl (uY) ?_
   refine uP 16 rfl (uAj rfl rfl) ?_
   apply qBo rfl (by kernel_rfl) rfl
   refine uJ ?_
   refine uE ?_
   refine uP 18 rfl (uAj rfl rfl) ?_
   apply qBn rfl (by kernel_rfl) (by kernel_rfl) rfl
   refine uJ ?_
   refine zJ (qK (qJ (uM rfl (uB (uAa rfl rfl) ?_))))
   refine uA rfl (qM ?_)
   simp only [zQ]
   rw [qCo (ts := ts) (brkT a l m i0 d t).2 (i := (i0 + t)) (j := (a + (o))) (by omega) (by omega)]
   case ho => omega
   case ho' => omega
   refine zT (t + 1) ⟨by omega, ?_⟩ (by omega) ⟨rfl, rfl, rfl, rfl, rfl, congrArg some (zX (by omega)), trivial⟩ ?_
   ·rw [hs]
    exact hdt.swp (by omega) (by omega)
   rw [hs, xorNext_toNat]
   exact uI
  obtain rfl : t = 3 := by omega
  refine kJ (qQ (qQ (zI ?_)))
  exact uZe rfl .nil ⟨rfl, rfl, hdt⟩
 exfalso; omega
end
section
variable {E : Env}
variable {ts : Nat → List UInt8} {q : HP} {ok : Nat → Prop} {cf : Nat → Nat → Int} {g c n : Nat}
open Go.Sort in
theorem qHw (hE : Seat E) (hc : CmpT E ts q ok cf) {d : Array Nat} (hd : OkDT ok n d) {a b : Nat} (hab : a < b) (hb : b ≤ n) (hn : n < 1099511627776) :
  Ct E 107 [.slice (some ⟨g, 0, none⟩) n c, .int .i64 (a : Nat), .int .i64 (b : Nat)] [sl (some ⟨g, 0, none⟩) c 9 1 n (dCT ts d), q]
   (fun v Q => v = .bool (partialInsertionSort (ltFT cf) d a b).2 ∧ Q = [sl (some ⟨g, 0, none⟩) c 9 1 n (dCT ts (partialInsertionSort (ltFT cf) d a b).1), q] ∧ OkDT ok n (partialInsertionSort (ltFT cf) d a b).1) := by
 obtain ⟨r, hr⟩ : ∃ r, r = partialInsertionSort (ltFT cf) d a b := ⟨_, rfl⟩
 have hr' := hr.symm
 unfold partialInsertionSort at hr'
 rw [← hr]
 refine zP (hE.fn Tryz.func107) rfl rfl rfl (fun R => ?_)
 simp only [qAe, uV, uW]
 refine qL (qJ (uA rfl (qM (qK (qL (qJ (uM rfl (uB (uAa rfl rfl) ?_))))))))
 refine uA rfl (qM (qK (qL (qL (qJ (uA rfl (qM (qK (zL ?_)))))))))
 refine qAj (fun x : Nat × Nat × Array Nat => [(0, .slice (some ⟨g, 0, none⟩) n c), (1, .int .i64 (a : Nat)), (2, .int .i64 (b : Nat)), (7, .int .i64 (x.2.1 : Nat)), (8, .int .i64 (5 - (x.1 : Int)))]) (fun x => [sl (some ⟨g, 0, none⟩) c 9 1 n (dCT ts x.2.2), q, R]) (fun x => x.1) (fun x => partialIns (ltFT cf) a b x.1 x.2.1 x.2.2 = r ∧ OkDT ok n x.2.2 ∧ x.1 ≤ 5 ∧ a + 1 ≤ x.2.1 ∧ x.2.1 ≤ b) (5, a + 1, d) ?_ ?_ ?_ ?_
 ·exact ⟨hr', hd, Nat.le_refl 5, by show a + 1 ≤ a + 1; omega, by show a + 1 ≤ b; omega⟩
 ·exact ⟨rfl, rfl, rfl, congrArg some (zX (by simp only; omega)), rfl, trivial⟩
 ·exact uI
 rintro ⟨s, i, e⟩ ⟨he, hde, hs5, hi, hib⟩
 simp only at he hde hs5 hi hib ⊢
 have hse := hde.1
 refine qL (qL (qJ (uM rfl (uB (y_lt rfl rfl) ?_))))
 refine qM (qK ?_)
 refine zF rfl (fun h0 => ?_) (fun h0 => ?_)
 ·obtain ⟨s, rfl⟩ : ∃ k, s = k + 1 := ⟨s - 1, by omega⟩
  rw [partialIns_succ] at he
  obtain ⟨i2, hi2⟩ : ∃ i2, scanSorted (ltFT cf) e b i = i2 := ⟨_, rfl⟩
  rw [hi2] at he
  refine zC (qK (qL (zL ?_)))
  refine qDs (fun _ : Unit => [(0, .slice (some ⟨g, 0, none⟩) n c), (1, .int .i64 (a : Nat)), (2, .int .i64 (b : Nat)), (7, .int .i64 ((i2 : Nat) : Int)), (8, .int .i64 (5 - ((s + 1 : Nat) : Int)))]) (fun _ => [sl (some ⟨g, 0, none⟩) c 9 1 n (dCT ts e), q, R]) (fun _ => i ≤ i2 ∧ i2 ≤ b) ?_ ?_
  ·refine zL ?_
   refine qAj (fun x : Nat => [(0, .slice (some ⟨g, 0, none⟩) n c), (1, .int .i64 (a : Nat)), (2, .int .i64 (b : Nat)), (7, .int .i64 ((x : Nat) : Int)), (8, .int .i64 (5 - ((s + 1 : Nat) : Int)))]) (fun _ => [sl (some ⟨g, 0, none⟩) c 9 1 n (dCT ts e), q, R]) (fun x => b - x) (fun x => scanSorted (ltFT cf) e b x = i2 ∧ i ≤ x ∧ x ≤ b) i ?_ ?_ ?_ ?_
   ·exact ⟨hi2, Nat.le_refl _, hib⟩
   ·exact ⟨rfl, rfl, rfl, rfl, rfl, trivial⟩
   ·exact uI
   rintro x ⟨hx, hx1, hx2⟩
   refine qL (qL (qAw (by kernel_rfl) ?_))
   refine uM rfl (uM rfl (uB (y_lt rfl rfl) ?_))
   refine uM rfl ?_
   refine qAl 20 rfl (fun g1 => ?_) (fun g1 => ?_)
   ·have f0 := qAi (ts := ts) e (i := x) (by omega) ((x : Int)).toNat (by omega)
    have f1 := qAi (ts := ts) e (i := x - 1) (by omega) ((x : Int) - 1).toNat (by omega)
    have hcc := hc _ _ (hde.2 x (by omega)) (hde.2 (x - 1) (by omega))
    refine kQ rfl rfl (uM rfl (kQ rfl rfl (uM rfl (kQ rfl rfl (uB (uAj rfl rfl) ?_)))))
    refine kQ rfl rfl (uL ?_)
    refine kQ rfl rfl (uM rfl (kQ rfl rfl (uM rfl (kQ rfl rfl (uB (uAs rfl rfl) ?_)))))
    refine kQ rfl rfl (uB (uAj rfl rfl) ?_)
    refine kQ rfl rfl (uL ?_)
    refine kQ rfl rfl (uX (hcc) rfl ?_)
    rintro _ _ ⟨rfl, rfl⟩
    simp only [uV, uW]
    refine kQ rfl rfl (uB (qBm rfl) ?_)
    refine uB (qY rfl rfl) ?_
    refine qM (qK ?_)
    refine qBe rfl (fun g2 => ?_) (fun g2 => ?_)
    ·refine zC (qK (zL (qJ ?_)))
     refine uM rfl (uB (uAa rfl rfl) ?_)
     refine uA rfl (qM (zJ ?_))
     refine zT (x + 1) ⟨?_, by omega, by omega⟩ (by omega) ⟨rfl, rfl, rfl, congrArg some (zX (by omega)), rfl, trivial⟩ uI
     rw [← hx]
     conv => rhs; rw [scanSorted, if_pos (by simp [ltFT, g2]; omega)]
    rw [scanSorted, if_neg (by simp [ltFT, g2])] at hx
    rw [← hx]
    refine kJ (qQ (qQ (zI ?_)))
    refine qBd () (by omega) ⟨rfl, rfl, rfl, rfl, rfl, trivial⟩ uI
   rw [scanSorted, if_neg (by simp; omega)] at hx
   rw [← hx]
   refine zU rfl rfl rfl rfl (zU rfl rfl rfl rfl (zU rfl rfl rfl rfl (zU rfl rfl rfl rfl (zU rfl rfl rfl rfl (zU rfl rfl rfl rfl (zU rfl rfl rfl rfl (zU rfl rfl rfl rfl ?_)))))))
   refine zU rfl rfl rfl rfl (zU rfl rfl rfl rfl (zU rfl rfl rfl rfl ?_))
   refine uB (qZ rfl rfl) ?_
   refine qM (qK (zD rfl (kJ (qQ (qQ (zI ?_))))))
   refine qBd () (by omega) ⟨rfl, rfl, rfl, rfl, rfl, trivial⟩ uI
  rintro _ ⟨k1, k2⟩
  refine qL (qL (qJ (uM rfl (uM rfl (uB (y_eq rfl rfl) ?_)))))
  refine qM (qK ?_)
  refine zF rfl (fun h1 => ?_) (fun h1 => ?_)
  ·rw [if_pos (by omega)] at he
   subst he
   refine qL (qJ (uA rfl (qM (qK (kC (qX (zO (qX (qX (zO (qX ?_)))))))))))
   exact uZ rfl (.tmp rfl .nil) ⟨rfl, rfl, hde⟩
  rw [if_neg (by omega)] at he
  refine zC (qK (qL (qL (qJ (uM rfl (uM rfl (uB (uAs rfl rfl) ?_)))))))
  refine uB (y_lt rfl rfl) ?_
  refine qM (qK ?_)
  refine zF rfl (fun h2 => ?_) (fun h2 => ?_)
  ·rw [if_pos (by omega)] at he
   subst he
   refine qL (qJ (uA rfl (qM (qK (kC (qX (zO (qX (qX (zO (qX ?_)))))))))))
   exact uZ rfl (.tmp rfl .nil) ⟨rfl, rfl, hde⟩
  rw [if_neg (by omega)] at he
  have f2 := qAi (ts := ts) e (i := i2) (by omega) ((i2 : Int)).toNat (by omega)
  have f3 := qAi (ts := ts) e (i := i2 - 1) (by omega) ((i2 : Int) - 1).toNat (by omega)
  refine zC (qK (qL ?_))
  refine qAo 15 ([sl (some ⟨g, 0, none⟩) c 9 1 n (dCT ts e), q]) [(17, [])] ?_ ?_
  ·exact uI
  refine uP 0 rfl (qC rfl) ?_
  refine uP 1 rfl (qC rfl) ?_
  refine uP 2 rfl (qC rfl) ?_
  refine uP 3 rfl (qC rfl) ?_
  refine uP 4 rfl (uAs rfl rfl) ?_
  refine uP 5 rfl (qC rfl) ?_
  refine uP 6 rfl (qC rfl) ?_
  refine uP 7 rfl (uAs rfl rfl) ?_
  refine uP 8 rfl (uAj rfl rfl) ?_
  refine uQ 9 rfl (uY) ?_
  refine uP 10 rfl (qC rfl) ?_
  refine uP 11 rfl (qC rfl) ?_
  refine uP 12 rfl (uAj rfl rfl) ?_
  refine uQ 13 rfl (uY) ?_
  refine uP 14 rfl (uAj rfl rfl) ?_
  apply qBo rfl (by kernel_rfl) rfl
  refine uJ ?_
  refine uE ?_
  refine uP 16 rfl (uAj rfl rfl) ?_
  apply qBn rfl (by kernel_rfl) (by kernel_rfl) rfl
  refine uJ ?_
  refine qK ?_
  simp only [zQ]
  rw [qCo (ts := ts) e (i := i2) (j := (i2 - 1)) (by omega) (by omega)]
  case ho => omega
  case ho' => omega
  have hd1 := hde.swp (show i2 < n by omega) (show i2 - 1 < n by omega)
  generalize swp e i2 (i2 - 1) = e1 at *
  obtain ⟨e2, he2⟩ : ∃ e2, fixDown (ltFT cf) a i2 e1 = e2 := ⟨_, rfl⟩
  rw [he2] at he
  unfold fixDown at he2
  refine qDs (fun _ : Unit => [(0, .slice (some ⟨g, 0, none⟩) n c), (1, .int .i64 (a : Nat)), (2, .int .i64 (b : Nat)), (7, .int .i64 ((i2 : Nat) : Int)), (8, .int .i64 (5 - ((s + 1 : Nat) : Int)))]) (fun _ => [sl (some ⟨g, 0, none⟩) c 9 1 n (dCT ts e2), q, R]) (fun _ => OkDT ok n e2) ?_ ?_
  ·refine qL (qJ ?_)
   refine uM rfl (uM rfl (uB (uAs rfl rfl) ?_))
   refine uB (y_ge rfl rfl) ?_
   refine qM (qK ?_)
   refine zF rfl (fun h3 => ?_) (fun h3 => ?_)
   ·rw [if_pos (by omega)] at he2
    refine qL (qJ (uM rfl (uB (uAs rfl rfl) ?_)))
    refine uA rfl (qM (qK (zL ?_)))
    refine qAj (fun x : Nat × Array Nat => [(0, .slice (some ⟨g, 0, none⟩) n c), (1, .int .i64 (a : Nat)), (2, .int .i64 (b : Nat)), (7, .int .i64 ((i2 : Nat) : Int)), (8, .int .i64 (5 - ((s + 1 : Nat) : Int))), (9, .int .i64 ((x.1 : Nat) : Int))]) (fun x => [sl (some ⟨g, 0, none⟩) c 9 1 n (dCT ts x.2), q, R]) (fun x => x.1) (fun x => shiftDown (ltFT cf) x.1 x.2 = e2 ∧ OkDT ok n x.2 ∧ x.1 < n) (i2 - 1, e1) ?_ ?_ ?_ ?_
    ·exact ⟨he2, hd1, by show i2 - 1 < n; omega⟩
    ·exact ⟨rfl, rfl, rfl, rfl, rfl, congrArg some (zX (by simp only; omega)), trivial⟩
    ·exact uI
    rintro ⟨j, u⟩ ⟨hu, hdu, hj⟩
    simp only at hu hdu hj ⊢
    have hsu := hdu.1
    refine qL (qL (qJ (uM rfl (uB (y_ge rfl rfl) ?_))))
    refine qM (qK ?_)
    refine zF rfl (fun g3 => ?_) (fun g3 => ?_)
    ·obtain ⟨j, rfl⟩ : ∃ k, j = k + 1 := ⟨j - 1, by omega⟩
     have f4 := qAi (ts := ts) u (i := j + 1) (by omega) (((j + 1 : Nat) : Int)).toNat (by omega)
     have f5 := qAi (ts := ts) u (i := j) (by omega) (((j + 1 : Nat) : Int) - 1).toNat (by omega)
     have hcc := hc _ _ (hdu.2 (j + 1) (by omega)) (hdu.2 j (by omega))
     rw [shiftDown] at hu
     refine zC (qK (qL (zL (qL (qL (qAw (by kernel_rfl) ?_))))))
     refine uM rfl (uM rfl (uB (uAj rfl rfl) ?_))
     refine uL ?_
     refine uM rfl (uM rfl (uB (uAs rfl rfl) ?_))
     refine uB (uAj rfl rfl) ?_
     refine uL ?_
     refine uX (hcc) rfl ?_
     rintro _ _ ⟨rfl, rfl⟩
     simp only [uV, uW]
     refine uB (qBm rfl) ?_
     refine qM (qK ?_)
     refine qBe rfl (fun g4 => ?_) (fun g4 => ?_)
     ·rw [if_pos (by simp [ltFT, g4])] at hu
      subst hu
      refine kJ (qQ (qBx rfl (qQ (qQ (zI ?_)))))
      refine qBd () hdu ⟨rfl, rfl, rfl, rfl, rfl, trivial⟩ uI
     rw [if_neg (by simp [ltFT, g4])] at hu
     refine zC (qK ?_)
     refine qAo 15 ([sl (some ⟨g, 0, none⟩) c 9 1 n (dCT ts u), q]) [(17, [])] ?_ ?_
     ·exact uI
     refine uP 0 rfl (qC rfl) ?_
     refine uP 1 rfl (qC rfl) ?_
     refine uP 2 rfl (qC rfl) ?_
     refine uP 3 rfl (qC rfl) ?_
     refine uP 4 rfl (uAs rfl rfl) ?_
     refine uP 5 rfl (qC rfl) ?_
     refine uP 6 rfl (qC rfl) ?_
     refine uP 7 rfl (uAs rfl rfl) ?_
     refine uP 8 rfl (uAj rfl rfl) ?_
     refine uQ 9 rfl (uY) ?_
     refine uP 10 rfl (qC rfl) ?_
     refine uP 11 rfl (qC rfl) ?_
     refine uP 12 rfl (uAj rfl rfl) ?_
     refine uQ 13 rfl (uY) ?_
     refine uP 14 rfl (uAj rfl rfl) ?_
     apply qBo rfl (by kernel_rfl) rfl
     refine uJ ?_
     refine uE ?_
     refine uP 16 rfl (uAj rfl rfl) ?_
     apply qBn rfl (by kernel_rfl) (by kernel_rfl) rfl
     refine uJ ?_
     refine zJ (qK (qJ (uM rfl (uB (uAs rfl rfl) ?_))))
     refine uA rfl (qM ?_)
     simp only [zQ]
     rw [qCo (ts := ts) u (i := (j + 1)) (j := j) (by omega) (by omega)]
     case ho => omega
     case ho' => omega
     refine zT (ι := Nat × Array Nat) (j := (j, swp u (j + 1) j)) ⟨hu, hdu.swp (by omega) (by omega), by show j < n; omega⟩ (by show j < j + 1; omega) ⟨rfl, rfl, rfl, rfl, rfl, congrArg some (zX (by simp only; omega)), trivial⟩ uI
    obtain rfl : j = 0 := by omega
    rw [shiftDown] at hu
    subst hu
    refine kJ (qQ (qQ (zI ?_)))
    refine qBd () hdu ⟨rfl, rfl, rfl, rfl, rfl, trivial⟩ uI
   rw [if_neg (by omega)] at he2
   subst he2
   refine zC ?_
   refine qBd () hd1 ⟨rfl, rfl, rfl, rfl, rfl, trivial⟩ uI
  intro _ hd2
  obtain ⟨e3, he3⟩ : ∃ e3, fixUp (ltFT cf) b i2 e2 = e3 := ⟨_, rfl⟩
  rw [he3] at he
  unfold fixUp at he3
  refine qL (qJ (uM rfl (uM rfl (uB (uAs rfl rfl) ?_))))
  refine uB (y_ge rfl rfl) ?_
  refine qM (qK ?_)
  refine zF rfl (fun h4 => ?_) (fun h4 => ?_)
  ·rw [if_pos (by omega)] at he3
   refine qL (qJ (uM rfl (uB (uAa rfl rfl) ?_)))
   refine uA rfl (qM (qK (zL ?_)))
   refine qAj (fun x : Nat × Array Nat => [(0, .slice (some ⟨g, 0, none⟩) n c), (1, .int .i64 (a : Nat)), (2, .int .i64 (b : Nat)), (7, .int .i64 ((i2 : Nat) : Int)), (8, .int .i64 (5 - ((s + 1 : Nat) : Int))), (10, .int .i64 ((x.1 : Nat) : Int))]) (fun x => [sl (some ⟨g, 0, none⟩) c 9 1 n (dCT ts x.2), q, R]) (fun x => b - x.1) (fun x => shiftUp (ltFT cf) b x.1 x.2 = e3 ∧ OkDT ok n x.2 ∧ 1 ≤ x.1 ∧ x.1 ≤ b) (i2 + 1, e2) ?_ ?_ ?_ ?_
   ·exact ⟨he3, hd2, by show 1 ≤ i2 + 1; omega, by show i2 + 1 ≤ b; omega⟩
   ·exact ⟨rfl, rfl, rfl, rfl, rfl, congrArg some (zX (by simp only; omega)), trivial⟩
   ·exact uI
   rintro ⟨j, u⟩ ⟨hu, hdu, hj1, hj⟩
   simp only at hu hdu hj1 hj ⊢
   have hsu := hdu.1
   refine qL (qL (qJ (uM rfl (uM rfl (uB (y_lt rfl rfl) ?_)))))
   refine qM (qK ?_)
   rw [shiftUp] at hu
   refine zF rfl (fun g5 => ?_) (fun g5 => ?_)
   ·rw [if_pos (show j < b by omega)] at hu
    have f6 := qAi (ts := ts) u (i := j) (by omega) ((j : Int)).toNat (by omega)
    have f7 := qAi (ts := ts) u (i := j - 1) (by omega) ((j : Int) - 1).toNat (by omega)
    have hcc := hc _ _ (hdu.2 j (by omega)) (hdu.2 (j - 1) (by omega))
    refine zC (qK (qL (zL (qL (qL (qAw (by kernel_rfl) ?_))))))
    refine uM rfl (uM rfl (uB (uAj rfl rfl) ?_))
    refine uL ?_
    refine uM rfl (uM rfl (uB (uAs rfl rfl) ?_))
    refine uB (uAj rfl rfl) ?_
    refine uL ?_
    refine uX (hcc) rfl ?_
    rintro _ _ ⟨rfl, rfl⟩
    simp only [uV, uW]
    refine uB (qBm rfl) ?_
    refine qM (qK ?_)
    refine qBe rfl (fun g6 => ?_) (fun g6 => ?_)
    ·rw [if_pos (by simp [ltFT, g6])] at hu
     subst hu
     refine kJ (qQ (qBx rfl (qQ (qQ (zI (zJ (qK ?_)))))))
     refine qJ (uM rfl (uB (uAa rfl rfl) ?_))
     refine uA rfl (qM ?_)
     refine zT (ι := Nat × Nat × Array Nat) (j := (s, i2, u)) ⟨he, hdu, by show s ≤ 5; omega, by show a + 1 ≤ i2; omega, by show i2 ≤ b; omega⟩ (by show s < s + 1; omega) ⟨rfl, rfl, rfl, rfl, congrArg some (zX (by simp only; omega)), trivial⟩ uI
    rw [if_neg (by simp [ltFT, g6])] at hu
    refine zC (qK ?_)
    refine qAo 15 ([sl (some ⟨g, 0, none⟩) c 9 1 n (dCT ts u), q]) [(17, [])] ?_ ?_
    ·exact uI
    refine uP 0 rfl (qC rfl) ?_
    refine uP 1 rfl (qC rfl) ?_
    refine uP 2 rfl (qC rfl) ?_
    refine uP 3 rfl (qC rfl) ?_
    refine uP 4 rfl (uAs rfl rfl) ?_
    refine uP 5 rfl (qC rfl) ?_
    refine uP 6 rfl (qC rfl) ?_
    refine uP 7 rfl (uAs rfl rfl) ?_
    refine uP 8 rfl (uAj rfl rfl) ?_
    refine uQ 9 rfl (uY) ?_
    refine uP 10 rfl (qC rfl) ?_
    refine uP 11 rfl (qC rfl) ?_
    refine uP 12 rfl (uAj rfl rfl) ?_
    refine uQ 13 rfl (uY) ?_
    refine uP 14 rfl (uAj rfl rfl) ?_
    apply qBo rfl (by kernel_rfl) rfl
    refine uJ ?_
    refine uE ?_
    refine uP 16 rfl (uAj rfl rfl) ?_
    apply qBn rfl (by kernel_rfl) (by kernel_rfl) rfl
    refine uJ ?_
    refine zJ (qK (qJ (uM rfl (uB (uAa rfl rfl) ?_))))
    refine uA rfl (qM ?_)
    simp only [zQ]
    rw [qCo (ts := ts) u (i := j) (j := (j - 1)) (by omega) (by omega)]
    case ho => omega
    case ho' => omega
    refine zT (ι := Nat × Array Nat) (j := (j + 1, swp u j (j - 1))) ⟨hu, hdu.swp (by omega) (by omega), by show 1 ≤ j + 1; omega, by show j + 1 ≤ b; omega⟩ (by show b - (j + 1) < b - j; omega) ⟨rfl, rfl, rfl, rfl, rfl, congrArg some (zX (by simp only; omega)), trivial⟩ uI
   rw [if_neg (show ¬ j < b by omega)] at hu
   subst hu
   refine kJ (qQ (qQ (zI (zJ (qK (qJ (uM rfl (uB (uAa rfl rfl) ?_))))))))
   refine uA rfl (qM ?_)
   refine zT (ι := Nat × Nat × Array Nat) (j := (s, i2, u)) ⟨he, hdu, by show s ≤ 5; omega, by show a + 1 ≤ i2; omega, by show i2 ≤ b; omega⟩ (by show s < s + 1; omega) ⟨rfl, rfl, rfl, rfl, congrArg some (zX (by simp only; omega)), trivial⟩ uI
  rw [if_neg (by omega)] at he3
  subst he3
  refine zC (zJ (qK (qJ (uM rfl (uB (uAa rfl rfl) ?_)))))
  refine uA rfl (qM ?_)
  refine zT (ι := Nat × Nat × Array Nat) (j := (s, i2, e2)) ⟨he, hd2, by show s ≤ 5; omega, by show a + 1 ≤ i2; omega, by show i2 ≤ b; omega⟩ (by show s < s + 1; omega) ⟨rfl, rfl, rfl, rfl, congrArg some (zX (by simp only; omega)), trivial⟩ uI
 obtain rfl : s = 0 := by omega
 rw [partialIns] at he
 subst he
 refine kJ (qQ (qQ (zI (qK (qL (qJ (uA rfl (qM (qK (kC ?_))))))))))
 exact uZ rfl (.tmp rfl .nil) ⟨rfl, rfl, hde⟩
end
end Go.Proofs.YtddfnkijolfhbaaGreat
namespace Go.Sort
def pdqCT (lt : Nat → Nat → Bool) (d3 : Array Nat) (a b limit : Nat) (wB wP : Bool) (pivot : Nat) : Array Nat :=
 if a > 0 && !lt d3[a - 1]! d3[pivot]! then
  match partitionEqual lt d3 a b pivot with
  | (mid, d4) => if _h : a < mid ∧ mid ≤ b then pdq lt d4 mid b limit wB wP else d4
 else
  match partition lt d3 a b pivot with
  | (mid, alreadyPartitioned, d4) =>
   if _h : a ≤ mid ∧ mid < b then
    if mid - a < b - mid then
     pdq lt (pdq lt d4 a mid limit true true) (mid + 1) b limit (decide (mid - a ≥ (b - a) / 8)) alreadyPartitioned
    else
     pdq lt (pdq lt d4 (mid + 1) b limit true true) a mid limit (decide (b - mid ≥ (b - a) / 8)) alreadyPartitioned
   else d4
def pdqBT (lt : Nat → Nat → Bool) (d2 : Array Nat) (a b limit : Nat) (wB wP : Bool) (pivot : Nat) (hint : Hint) : Array Nat :=
 let pi := if wB && wP && hint = .increasing then partialInsertionSort lt d2 a b else (d2, false)
 if pi.2 then pi.1 else pdqCT lt pi.1 a b limit wB wP pivot
def pdqAT (lt : Nat → Nat → Bool) (d1 : Array Nat) (a b limit : Nat) (wB wP : Bool) : Array Nat :=
 let c := choosePivot lt d1 a b
 pdqBT lt (if c.2 = .decreasing then reverseRange d1 a b else d1) a b limit wB wP (if c.2 = .decreasing then (b - 1) - (c.1 - a) else c.1) (if c.2 = .decreasing then Hint.increasing else c.2)
theorem qXz {lt : Nat → Nat → Bool} {d : Array Nat} {a b limit : Nat} {wB wP : Bool} (h : ¬ b - a ≤ 12) (h0 : ¬ limit = 0) : pdq lt d a b limit wB wP = pdqAT lt (if !wB then breakPatterns d a b else d) a b (if !wB then limit - 1 else limit) wB wP := by
 rw [pdq, if_neg h, if_neg h0]
 rfl
end Go.Sort
namespace Go.Proofs.YtddfnkijolfhbaaGreat
open Go Go.RowKit Sl Eg
set_option maxRecDepth 10000
section
variable {E : Env}
variable {ts : Nat → List UInt8} {q : HP} {ok : Nat → Prop} {cf : Nat → Nat → Int} {g c n : Nat}
theorem qXo {h : Go.Sort.Hint} (e : qOo h = 2) : h = .decreasing := by cases h <;> simp [qOo] at e ⊢
theorem qXq {h : Go.Sort.Hint} (e : qOo h = 1) : h = .increasing := by cases h <;> simp [qOo] at e ⊢
open Go.Sort in
theorem ct_pdqT (hE : Seat E) (hc : CmpT E ts q ok cf) (hO : SWO (ltFT cf)) (hn : n < 65536) : ∀ (k : Nat) {d : Array Nat} (hd : OkDT ok n d) {a b limit : Nat} (hk : b - a ≤ k) (hab : a ≤ b) (hb : b ≤ n) (hlim : limit ≤ 1000),
  Ct E 72 [.slice (some ⟨g, 0, none⟩) n c, .int .i64 (a : Nat), .int .i64 (b : Nat), .int .i64 (limit : Nat)] [sl (some ⟨g, 0, none⟩) c 9 1 n (dCT ts d), q]
   (fun v Q => v = .tuple #[] ∧ Q = [sl (some ⟨g, 0, none⟩) c 9 1 n (dCT ts (pdq (ltFT cf) d a b limit true true)), q] ∧ OkDT ok n (pdq (ltFT cf) d a b limit true true)) := by
 intro k
 induction k using Nat.strongRecOn with
 | _ k ih =>
 intro d hd a b limit hk hab hb hlim
 obtain ⟨r, hr⟩ : ∃ r, r = pdq (ltFT cf) d a b limit true true := ⟨_, rfl⟩
 rw [← hr]
 refine zP (hE.fn Tryz.func72) rfl rfl rfl (fun R => ?_)
 simp only [qAe, uV, uW]
 refine qL (qJ (uA rfl (qM (qK (qL (qJ (uA rfl (qM (qK (zL ?_))))))))))
 refine qAj (fun x : (Nat × Nat × Nat) × Bool × Bool × Array Nat => [(0, .slice (some ⟨g, 0, none⟩) n c), (1, .int .i64 (x.1.1 : Nat)), (2, .int .i64 (x.1.2.1 : Nat)), (3, .int .i64 (x.1.2.2 : Nat)), (8, .bool x.2.1), (9, .bool x.2.2.1)]) (fun x => [sl (some ⟨g, 0, none⟩) c 9 1 n (dCT ts x.2.2.2), q, R]) (fun x => x.1.2.1 - x.1.1) (fun x => pdq (ltFT cf) x.2.2.2 x.1.1 x.1.2.1 x.1.2.2 x.2.1 x.2.2.1 = r ∧ OkDT ok n x.2.2.2 ∧ x.1.1 ≤ x.1.2.1 ∧ x.1.2.1 ≤ n ∧ x.1.2.2 ≤ 1000 ∧ x.1.2.1 - x.1.1 ≤ k) ((a, b, limit), true, true, d) ?_ ?_ ?_ ?_
 ·exact ⟨hr.symm, hd, hab, hb, hlim, hk⟩
 ·exact ⟨rfl, rfl, rfl, rfl, rfl, rfl, trivial⟩
 ·exact uI
 clear hr hd hk hab hb hlim a b limit d
 rintro ⟨⟨a, b, limit⟩, wB, wP, d⟩ ⟨he, hd, hab, hb, hlim, hk⟩
 simp only at he hd hab hb hlim hk ⊢
 have hs := hd.1
 refine zL (qL (qJ (uM rfl (uM rfl (uB (uAs rfl rfl) ?_)))))
 refine uA rfl (qM (qK ?_))
 obtain ⟨l, hl⟩ : ∃ l, l = b - a := ⟨_, rfl⟩
 refine w_eq 10 (.int .i64 ((l : Nat) : Int)) rfl (zX (by omega)) ?_
 refine qL (qL (qJ (uM rfl (uB (y_le rfl rfl) ?_))))
 refine qM (qK ?_)
 refine zF rfl (fun h1 => ?_) (fun h1 => ?_)
 ·rw [pdq, if_pos (by omega)] at he
  refine qL (qJ (uM rfl (uM rfl (uM rfl (uX (qJs hE hc hd hab hb (by omega)) rfl ?_)))))
  rintro _ _ ⟨rfl, rfl, hd2⟩
  simp only [uV, uW]
  rw [he] at hd2 ⊢
  refine qM (qK (kC (qX (zO (qX (zO ?_))))))
  exact uZ rfl .nil ⟨rfl, rfl, hd2⟩
 refine zC (qK (qL (qL (qJ ?_))))
 refine uM rfl (uB (y_eq rfl rfl) ?_)
 refine qM (qK ?_)
 refine zF rfl (fun h2 => ?_) (fun h2 => ?_)
 ·rw [pdq, if_neg (by omega), if_pos (by omega)] at he
  refine qL (qJ (uM rfl (uM rfl (uM rfl (uX (qRx hE hc hd (by omega) hb (by omega)) rfl ?_)))))
  rintro _ _ ⟨rfl, rfl, hd2⟩
  simp only [uV, uW]
  rw [he] at hd2 ⊢
  refine qM (qK (kC (qX (zO (qX (zO ?_))))))
  exact uZ rfl .nil ⟨rfl, rfl, hd2⟩
 rw [qXz (by omega) (by omega)] at he
 obtain ⟨d1, hd1⟩ : ∃ d1, (if !wB then breakPatterns d a b else d) = d1 := ⟨_, rfl⟩
 obtain ⟨li, hli⟩ : ∃ li, (if !wB then limit - 1 else limit) = li := ⟨_, rfl⟩
 rw [hd1, hli] at he
 refine zC (qK ?_)
 refine qDs (fun _ : Unit => [(0, .slice (some ⟨g, 0, none⟩) n c), (1, .int .i64 (a : Nat)), (2, .int .i64 (b : Nat)), (8, .bool wB), (9, .bool wP), (10, .int .i64 ((l : Nat) : Int)), (3, .int .i64 ((li : Nat) : Int))]) (fun _ => [sl (some ⟨g, 0, none⟩) c 9 1 n (dCT ts d1), q, R]) (fun _ => OkDT ok n d1 ∧ li ≤ 1000) ?_ ?_
 ·refine qL (qJ ?_)
  refine uM rfl (uB (qBm rfl) ?_)
  refine qM (qK ?_)
  refine qLp rfl (fun h3 => ?_) (fun h3 => ?_)
  ·rw [if_pos h3] at hd1 hli
   refine qL (qJ (uM rfl (uM rfl (uM rfl (uX (qJp hE hd (by omega) hb hn) rfl ?_)))))
   rintro _ _ ⟨rfl, rfl, hd2⟩
   simp only [uV, uW]
   rw [hd1] at hd2 ⊢
   refine qM (qK (qJ (uM rfl (uB (uAs rfl rfl) ?_))))
   refine uA rfl (qM ?_)
   refine qBd () ⟨hd2, by omega⟩ ⟨rfl, rfl, rfl, rfl, rfl, rfl, congrArg some (zX (by omega)), trivial⟩ uI
  rw [if_neg (by rw [h3]; simp)] at hd1 hli
  subst hd1 hli
  refine zC ?_
  refine qBd () ⟨hd, by omega⟩ ⟨rfl, rfl, rfl, rfl, rfl, rfl, rfl, trivial⟩ uI
 rintro _ ⟨hdd, hli2⟩
 unfold pdqAT at he
 obtain ⟨cp, hcp⟩ : ∃ cp, choosePivot (ltFT cf) d1 a b = cp := ⟨_, rfl⟩
 have hcr := choosePivot_holds (ltFT cf) d1 a b (by omega)
 rw [hcp] at hcr he
 simp only at he
 refine qL (qJ (uM rfl (uM rfl (uM rfl (uX (qLy hE hc hdd (by omega) hb (by omega)) rfl ?_)))))
 rintro _ _ ⟨rfl, rfl⟩
 simp only [uV, uW]
 rw [hcp]
 obtain ⟨d2, hd2⟩ : ∃ d2, (if cp.2 = Hint.decreasing then reverseRange d1 a b else d1) = d2 := ⟨_, rfl⟩
 obtain ⟨pv, hpv⟩ : ∃ pv, (if cp.2 = Hint.decreasing then (b - 1) - (cp.1 - a) else cp.1) = pv := ⟨_, rfl⟩
 obtain ⟨hi, hhi⟩ : ∃ hi, (if cp.2 = Hint.decreasing then Hint.increasing else cp.2) = hi := ⟨_, rfl⟩
 rw [hd2, hpv, hhi] at he
 refine uM rfl (uB (qV rfl rfl) (uB (qV rfl rfl) (uA rfl (uA rfl (qM (qK ?_))))))
 refine qDs (fun _ : Unit => [(0, .slice (some ⟨g, 0, none⟩) n c), (1, .int .i64 (a : Nat)), (2, .int .i64 (b : Nat)), (8, .bool wB), (9, .bool wP), (10, .int .i64 ((l : Nat) : Int)), (3, .int .i64 ((li : Nat) : Int)), (11, .int .i64 ((pv : Nat) : Int)), (12, .int .i64 ((qOo hi : Nat) : Int))]) (fun _ => [sl (some ⟨g, 0, none⟩) c 9 1 n (dCT ts d2), q, R]) (fun _ => OkDT ok n d2 ∧ a ≤ pv ∧ pv < b) ?_ ?_
 ·refine qL (qJ ?_)
  refine uM rfl (uB (y_eq rfl rfl) ?_)
  refine qM (qK ?_)
  refine zF rfl (fun h4 => ?_) (fun h4 => ?_)
  ·have hde : cp.2 = .decreasing := qXo (by omega)
   rw [if_pos hde] at hd2 hpv hhi
   refine qL (qJ (uM rfl (uM rfl (uM rfl (uX (qLd hE hdd (by omega) hb (by omega)) rfl ?_)))))
   rintro _ _ ⟨rfl, rfl, hdr⟩
   simp only [uV, uW]
   rw [hd2] at hdr ⊢
   refine qM (qK (qL (qJ (uM rfl (uB (uAs rfl rfl) ?_)))))
   refine uM rfl (uM rfl (uB (uAs rfl rfl) ?_))
   refine uB (uAs rfl rfl) ?_
   refine uA rfl (qM (qK (qJ (uA rfl (qM ?_)))))
   refine qBd () ⟨hdr, by omega, by omega⟩ ⟨rfl, rfl, rfl, rfl, rfl, rfl, rfl, congrArg some (zX (by omega)), by subst hhi; rfl, trivial⟩ uI
  have hde : ¬ cp.2 = .decreasing := fun e => h4 (by rw [e]; rfl)
  rw [if_neg hde] at hd2 hpv hhi
  subst hd2 hpv hhi
  refine zC ?_
  refine qBd () ⟨hdd, hcr.1, hcr.2⟩ ⟨rfl, rfl, rfl, rfl, rfl, rfl, rfl, rfl, rfl, trivial⟩ uI
 rintro _ ⟨hdd2, hpv1, hpv2⟩
 unfold pdqBT at he
 obtain ⟨pi, hpi⟩ : ∃ pi, (if wB && wP && decide (hi = Hint.increasing) then partialInsertionSort (ltFT cf) d2 a b else (d2, false)) = pi := ⟨_, rfl⟩
 rw [hpi] at he
 refine qDs (fun _ : Unit => [(0, .slice (some ⟨g, 0, none⟩) n c), (1, .int .i64 (a : Nat)), (2, .int .i64 (b : Nat)), (8, .bool wB), (9, .bool wP), (10, .int .i64 ((l : Nat) : Int)), (3, .int .i64 ((li : Nat) : Int)), (11, .int .i64 ((pv : Nat) : Int))]) (fun _ => [sl (some ⟨g, 0, none⟩) c 9 1 n (dCT ts pi.1), q, R]) (fun _ => OkDT ok n pi.1 ∧ pi.2 = false) ?_ ?_
 ·refine qL (qJ ?_)
  refine uM rfl (uM rfl ?_)
  refine qLj 62 rfl (fun h5 => ?_) (fun h5 => ?_)
  ·refine kQ rfl rfl ?_
   refine uM rfl (uB (qY rfl rfl) ?_)
   refine uM rfl ?_
   refine qLj 65 rfl (fun h6 => ?_) (fun h6 => ?_)
   ·refine kQ rfl rfl ?_
    refine uM rfl (kQ rfl rfl (uB (y_eq rfl rfl) ?_))
    refine uB (qY rfl rfl) ?_
    refine qM (qK ?_)
    refine zF rfl (fun h7 => ?_) (fun h7 => ?_)
    ·have hin : hi = .increasing := qXq (by omega)
     rw [if_pos (by rw [h5, h6, hin]; rfl)] at hpi
     refine qL (qJ (uM rfl (uM rfl (uM rfl (uX (qHw hE hc hdd2 (by omega) hb (by omega)) rfl ?_)))))
     rintro _ _ ⟨rfl, rfl, hdp⟩
     simp only [uV, uW]
     rw [hpi] at hdp ⊢
     refine qM (qK ?_)
     refine qLp rfl (fun h8 => ?_) (fun h8 => ?_)
     ·rw [if_pos h8] at he
      subst he
      refine kC (qX (zO (qX (zO ?_))))
      exact uZ rfl .nil ⟨rfl, rfl, hdp⟩
     refine zC ?_
     refine qBd () ⟨hdp, h8⟩ ⟨rfl, rfl, rfl, rfl, rfl, rfl, rfl, rfl, trivial⟩ uI
    rw [if_neg (by intro e; simp at e; rw [e.2] at h7; exact h7 rfl)] at hpi
    subst hpi
    refine zC ?_
    refine qBd () ⟨hdd2, rfl⟩ ⟨rfl, rfl, rfl, rfl, rfl, rfl, rfl, rfl, trivial⟩ uI
   rw [if_neg (by intro e; simp at e; rw [h6] at e; simp at e)] at hpi
   subst hpi
   refine zU rfl rfl rfl rfl (zU rfl rfl rfl rfl ?_)
   refine uB (qZ rfl rfl) ?_
   refine qM (qK (zD rfl (zC ?_)))
   refine qBd () ⟨hdd2, rfl⟩ ⟨rfl, rfl, rfl, rfl, rfl, rfl, rfl, rfl, trivial⟩ uI
  rw [if_neg (by intro e; simp at e; rw [h5] at e; simp at e)] at hpi
  subst hpi
  refine zU rfl rfl rfl rfl ?_
  refine uB (qZ rfl rfl) ?_
  refine uM rfl ?_
  refine zU rfl rfl rfl rfl (zU rfl rfl rfl rfl ?_)
  refine uB (qZ rfl rfl) ?_
  refine qM (qK (zD rfl (zC ?_)))
  refine qBd () ⟨hdd2, rfl⟩ ⟨rfl, rfl, rfl, rfl, rfl, rfl, rfl, rfl, trivial⟩ uI
 rintro _ ⟨hdp, hpf⟩
 rw [if_neg (by rw [hpf]; simp)] at he
 obtain ⟨d3, hd3⟩ : ∃ d3, pi.1 = d3 := ⟨_, rfl⟩
 rw [hd3] at he hdp ⊢
 clear hpi hpf hd3 hd2 hpv hhi hd1 hli
 have hs3 := hdp.1
 unfold pdqCT at he
 refine qDs (fun _ : Unit => [(0, .slice (some ⟨g, 0, none⟩) n c), (1, .int .i64 (a : Nat)), (2, .int .i64 (b : Nat)), (8, .bool wB), (9, .bool wP), (10, .int .i64 ((l : Nat) : Int)), (3, .int .i64 ((li : Nat) : Int)), (11, .int .i64 ((pv : Nat) : Int))]) (fun _ => [sl (some ⟨g, 0, none⟩) c 9 1 n (dCT ts d3), q, R]) (fun _ => ¬ (decide (a > 0) && !ltFT cf d3[a - 1]! d3[pv]!) = true) ?_ ?_
 ·refine qL (qAw (by kernel_rfl) ?_)
  refine uM rfl (uB (y_gt rfl rfl) ?_)
  refine uM rfl ?_
  refine qAl 75 rfl (fun h9 => ?_) (fun h9 => ?_)
  ·have f0 := qAi (ts := ts) d3 (i := a - 1) (by omega) ((a : Int) - 1).toNat (by omega)
   have f1 := qAi (ts := ts) d3 (i := pv) (by omega) ((pv : Int)).toNat (by omega)
   have hcc := hc _ _ (hdp.2 (a - 1) (by omega)) (hdp.2 pv (by omega))
   refine kQ rfl rfl (uM rfl (kQ rfl rfl (uM rfl (kQ rfl rfl (uB (uAs rfl rfl) ?_)))))
   refine kQ rfl rfl (uB (uAj rfl rfl) ?_)
   refine kQ rfl rfl (uL ?_)
   refine kQ rfl rfl (uM rfl (kQ rfl rfl (uM rfl (kQ rfl rfl (uB (uAj rfl rfl) ?_)))))
   refine kQ rfl rfl (uL ?_)
   refine kQ rfl rfl (uX (hcc) rfl ?_)
   rintro _ _ ⟨rfl, rfl⟩
   simp only [uV, uW]
   refine kQ rfl rfl (uB (qBm rfl) ?_)
   refine uB (qY rfl rfl) ?_
   refine qM (qK ?_)
   refine qBe rfl (fun g9 => ?_) (fun g9 => ?_)
   ·rw [if_pos (by simp [ltFT, g9]; omega)] at he
    have hsz := Go.Sort.size_swp d3 a pv
    have hrg := partEqLoop_spec (ltFT cf) a b _ (a + 1) (b - 1) (swp d3 a pv) (Nat.le_refl _) (by omega) (by omega) (by omega) (by omega) (fun t h1 h2 => by omega) (fun t h1 h2 => by omega)
    obtain ⟨pq, hpq⟩ : ∃ pq, partitionEqual (ltFT cf) d3 a b pv = pq := ⟨_, rfl⟩
    have hrg1 : a < pq.1 ∧ pq.1 ≤ b := by rw [← hpq]; exact ⟨hrg.1, hrg.2.1⟩
    rw [hpq] at he
    obtain ⟨md, dq⟩ := pq
    simp only at he hrg1
    rw [dif_pos hrg1] at he
    refine qL (qJ (uM rfl (uM rfl (uM rfl (uM rfl (uX (qIt hE hc hdp hpv1 hpv2 hb (by omega)) rfl ?_))))))
    rintro _ _ ⟨rfl, rfl, hdq⟩
    simp only [uV, uW]
    rw [hpq] at hdq ⊢
    refine uA rfl (qM (qK (qL (qJ (uM rfl (uA rfl (qM (qK (kJ (qQ (zI ?_)))))))))))
    refine zT (ι := (Nat × Nat × Nat) × Bool × Bool × Array Nat) (j := ((md, b, li), wB, wP, dq)) ⟨he, hdq, hrg1.2, hb, hli2, by show b - md ≤ k; omega⟩ (by show b - md < b - a; omega) ⟨rfl, rfl, rfl, rfl, rfl, rfl, trivial⟩ uI
   refine zC ?_
   refine qBd () (by simp [ltFT, g9]) ⟨rfl, rfl, rfl, rfl, rfl, rfl, rfl, rfl, trivial⟩ uI
  refine zU rfl rfl rfl rfl (zU rfl rfl rfl rfl (zU rfl rfl rfl rfl (zU rfl rfl rfl rfl (zU rfl rfl rfl rfl (zU rfl rfl rfl rfl (zU rfl rfl rfl rfl (zU rfl rfl rfl rfl ?_)))))))
  refine zU rfl rfl rfl rfl (zU rfl rfl rfl rfl (zU rfl rfl rfl rfl ?_))
  refine uB (qZ rfl rfl) ?_
  refine qM (qK (zD rfl (zC ?_)))
  refine qBd () (by simp; omega) ⟨rfl, rfl, rfl, rfl, rfl, rfl, rfl, rfl, trivial⟩ uI
 intro _ hno
 rw [if_neg hno] at he
 obtain ⟨pt, hpt⟩ : ∃ pt, partition (ltFT cf) d3 a b pv = pt := ⟨_, rfl⟩
 have hrg := partition_holds (ltFT cf) hO d3 a b pv hpv1 hpv2 (by omega)
 rw [hpt] at he hrg
 have hr1 := hrg.1
 have hr2 := hrg.2.1
 clear hrg hno
 obtain ⟨mid, al, d4⟩ := pt
 simp only at he hr1 hr2
 rw [dif_pos ⟨hr1, hr2⟩] at he
 refine qL (qJ (uM rfl (uM rfl (uM rfl (uM rfl (uX (qPs hE hc hdp hpv1 hpv2 hb (by omega)) rfl ?_))))))
 rintro _ _ ⟨rfl, rfl, hdq⟩
 simp only [uV, uW]
 rw [hpt] at hdq ⊢
 refine uM rfl (uB (qV rfl rfl) (uB (qV rfl rfl) (uA rfl (uA rfl (qM (qK (qL (qJ (uM rfl (uA rfl ?_))))))))))
 refine qM (qK (qL (qJ (uM rfl (uM rfl (uB (uAs rfl rfl) ?_))))))
 refine uM rfl (uM rfl (uB (uAs rfl rfl) ?_))
 refine uA rfl (uA rfl (qM (qK (qL (qJ (uM rfl (uB (qHe rfl rfl (by omega) (by omega) (by omega)) ?_)))))))
 refine uA rfl (qM (qK (qL (qJ (uM rfl (uM rfl (uB (y_lt rfl rfl) ?_)))))))
 refine qM (qK ?_)
 refine zF rfl (fun h10 => ?_) (fun h10 => ?_)
 ·rw [if_pos (by omega)] at he
  refine qL (qJ (uM rfl (uM rfl (uB (y_ge rfl rfl) ?_))))
  refine uA rfl (qM (qK ?_))
  refine w_eq 8 (.bool (decide (mid - a ≥ (b - a) / 8))) rfl (congrArg Value.bool (decide_eq_decide.2 (by omega))) ?_
  refine qL (qJ (uM rfl (uM rfl (uM rfl (uM rfl (uX (ih (mid - a) (by omega) hdq (Nat.le_refl _) hr1 (by omega) hli2) rfl ?_))))))
  rintro _ _ ⟨rfl, rfl, hdz⟩
  simp only [uV, uW]
  refine qM (qK (qJ (uM rfl (uB (uAa rfl rfl) ?_))))
  refine uA rfl (qM (zJ ?_))
  refine zT (ι := (Nat × Nat × Nat) × Bool × Bool × Array Nat) (j := ((mid + 1, b, li), decide (mid - a ≥ (b - a) / 8), al, pdq (ltFT cf) d4 a mid li true true)) ⟨he, hdz, by show mid + 1 ≤ b; omega, hb, hli2, by show b - (mid + 1) ≤ k; omega⟩ (by show b - (mid + 1) < b - a; omega) ⟨rfl, congrArg some (zX (by simp only; omega)), rfl, rfl, rfl, rfl, trivial⟩ uI
 rw [if_neg (by omega)] at he
 refine qL (qJ (uM rfl (uM rfl (uB (y_ge rfl rfl) ?_))))
 refine uA rfl (qM (qK ?_))
 refine w_eq 8 (.bool (decide (b - mid ≥ (b - a) / 8))) rfl (congrArg Value.bool (decide_eq_decide.2 (by omega))) ?_
 refine qL (qJ (uM rfl (uM rfl (uB (uAa rfl rfl) ?_))))
 refine uM rfl (uM rfl ?_)
 refine l_eq 129 (.int .i64 ((mid + 1 : Nat) : Int)) rfl (zX (by omega)) ?_
 refine uX (ih (b - (mid + 1)) (by omega) hdq (Nat.le_refl _) (by omega) hb hli2) rfl ?_
 rintro _ _ ⟨rfl, rfl, hdz⟩
 simp only [uV, uW]
 refine qM (qK (qJ (uM rfl (uA rfl (qM (zJ ?_))))))
 refine zT (ι := (Nat × Nat × Nat) × Bool × Bool × Array Nat) (j := ((a, mid, li), decide (b - mid ≥ (b - a) / 8), al, pdq (ltFT cf) d4 (mid + 1) b li true true)) ⟨he, hdz, hr1, by show mid ≤ n; omega, hli2, by show mid - a ≤ k; omega⟩ (by show mid - a < b - a; omega) ⟨rfl, rfl, rfl, rfl, rfl, rfl, trivial⟩ uI
end
section
variable {E : Env} {g c : Nat}
theorem swoT (ts : Nat → List UInt8) : Go.Sort.SWO (ltFT (cfT ts)) where
 irrefl := fun x => by
  unfold ltFT cfT
  rw [qYs]
  rfl
 trans := fun x y z h1 h2 => by
  have g1 : cmpT (ts x) (ts y) < 0 := of_decide_eq_true h1
  have g2 : cmpT (ts y) (ts z) < 0 := of_decide_eq_true h2
  refine decide_eq_true (show cmpT (ts x) (ts z) < 0 from ?_)
  have g3 := qOd (Int.le_of_lt g1) (Int.le_of_lt g2)
  by_cases e : cmpT (ts x) (ts z) = 0
  ·have e2 := qLs.1 e
   rw [e2, qFg] at g1
   omega
  omega
 ntrans := fun x y z h1 h2 => by
  have g1 : ¬ cmpT (ts x) (ts y) < 0 := of_decide_eq_false h1
  have g2 : ¬ cmpT (ts y) (ts z) < 0 := of_decide_eq_false h2
  refine decide_eq_false (show ¬ cmpT (ts x) (ts z) < 0 from ?_)
  have e1 := qFg (ts x) (ts y)
  have e2 := qFg (ts y) (ts z)
  have e3 := qFg (ts x) (ts z)
  have g3 := qOd (A := ts z) (B := ts y) (C := ts x) (by omega) (by omega)
  omega
theorem pair_ofT {ts : Nat → List UInt8} {n : Nat} {d : Array Nat} (h : d.size = n) (hs : Go.Sort.SortedIn (ltFT (cfT ts)) 0 n d) : (d.toList.map ts).Pairwise fun a b => cmpT a b ≤ 0 := by
 rw [List.pairwise_map, List.pairwise_iff_getElem]
 intro i j hi hj hij
 have := of_decide_eq_false (hs i j (Nat.zero_le _) hij (by simp at hj; omega))
 simp only [cfT] at this
 rw [getElem!_pos d j (by simpa using hj), getElem!_pos d i (by simpa using hi)] at this
 simp only [Array.getElem_toList]
 have e := qFg (ts d[i]) (ts d[j])
 omega
theorem range_ts (l : List (List UInt8)) : (List.range l.length).map (fun i => l.getD i []) = l := by
 apply List.ext_getElem?
 intro i
 rw [List.getElem?_map]
 by_cases h : i < l.length
 ·rw [List.getElem?_range h]
  simp [h]
 rw [List.getElem?_eq_none_iff.2 (by simpa using h), List.getElem?_eq_none_iff.2 (by omega)]
 rfl
theorem putT {H : List HP} (k : PH) (x : qAd H k) : qAd ((fun _ => True) :: H) k := ⟨fun _ => none, k, fun _ => .inl rfl, by funext b; simp [join], trivial, x⟩
def nmC (l : List (List UInt8)) : List Value := l.map fun x => .string ⟨⟨x⟩⟩
theorem dCT_nm (ts : Nat → List UInt8) (d : Array Nat) : dCT ts d = nmC (d.toList.map ts) := by
 unfold nmC dCT
 rw [List.map_map]
 rfl
open Go.Sort in
theorem qEo (hE : Seat E) {l : List (List UInt8)} (hn : l.length < 65536) :
  Ct E 42 [.slice (some ⟨g, 0, none⟩) l.length c] [sl (some ⟨g, 0, none⟩) c 9 1 l.length (nmC l)]
   (fun v Q => ∃ l' : List (List UInt8), v = .tuple #[] ∧ l'.Perm l ∧ l'.Pairwise (fun a b => cmpT a b ≤ 0) ∧ Q = [sl (some ⟨g, 0, none⟩) c 9 1 l.length (nmC l')]) := by
 obtain ⟨n, hnl⟩ : ∃ n, n = l.length := ⟨_, rfl⟩
 obtain ⟨ts, hts⟩ : ∃ ts : Nat → List UInt8, ts = fun i => l.getD i [] := ⟨_, rfl⟩
 have hd : OkDT (fun _ => True) n (List.range n).toArray := ⟨by simp, fun _ _ => trivial⟩
 have hb := qFt (k := n) (by omega)
 have hs := hd.1
 have hl := pdq_sorts (ltFT (cfT ts)) (swoT ts) (List.range n).toArray 0 n (bitsLen n) true true (Nat.zero_le _) (by omega) (.inl rfl)
 obtain ⟨⟨p1, p2, p3⟩, hl2⟩ := hl
 have hx : ∀ e : Array Nat, e.size = n → e.extract 0 n = e := fun e h => by subst h; simp
 rw [hx _ hs, hx _ (p1.trans hs)] at p3
 have hrt : (List.range n).map ts = l := by rw [hnl, hts]; exact range_ts l
 have hdl : nmC l = dCT ts (List.range n).toArray := by
  unfold nmC dCT
  conv => lhs; rw [← hrt]
  rw [List.map_map]
  rfl
 rw [← hnl, hdl]
 have hc : CmpT E ts (fun _ => True) (fun _ => True) (cfT ts) := cmpTs hE
 refine zP (hE.fn Tryz.func42) rfl rfl rfl (fun R => ?_)
 simp only [qAe, uV, uW]
 refine qL (qJ (uM rfl (uB (uBl rfl) ?_)))
 refine uA rfl (qM (qK (qJ (uM rfl (uM rfl (uM rfl (uB (uAc rfl) ?_)))))))
 refine uX (qIa hE (k := n) (by omega)) rfl ?_
 rintro _ _ ⟨rfl, rfl⟩
 simp only [uV, uW]
 refine qAx putT ?_
 refine uX (ct_pdqT (a := 0) (b := n) (limit := bitsLen n) hE hc (swoT ts) (by omega) n hd (by omega) (Nat.zero_le _) (Nat.le_refl _) (by omega)) rfl ?_
 rintro _ _ ⟨rfl, rfl, hd2⟩
 simp only [uV, uW]
 rw [dCT_nm]
 refine qM ?_
 apply qYl
 ·rfl
 ·(exact Rs.nil)
 ·refine ⟨_, rfl, ?_, pair_ofT (p1.trans hs) hl2, rfl⟩
  have := p3.map ts
  rw [show (List.range n).toArray.toList = List.range n from rfl, hrt] at this
  exact this
 exact uI
end
end Go.Proofs.YtddfnkijolfhbaaGreat
