/- Regions in which many operations may come next. -/
import Derived.Test.YtekhbjlplfbdkaaDoorQ02
import Derived.Test.YtekhbjlplfbdkaaDoorQ08
import Derived.Test.YtekhbjlplfbdkaaDoorQ11
import Derived.Test.YtekhbjlplfbdkaaDoorQ13
import Derived.Test.YtekhbjlplfbdkaaDoorQ21
import Derived.Test.YtekhbjlplfbdkaaDoorQ39
set_option linter.unusedVariables false
set_option linter.unusedSimpArgs false
namespace Sl
open Go Go.RowKit
variable {E : Env} {n : Nat} {L L' : Fr} {S H H' : List HP} {K : Value → List HP → Prop} {Q : Exit → Act → World → Prop}
theorem m_weak {ops : List Oper} {m fuel : Nat} {listed : Array Bool} (hL : wk L L') (hH : ∀ k, stars H k → stars H' k) (hS : ∀ k, stars H' k → stars S k) (h : WPM E ops m S Q fuel listed n L' H') : WPM E ops m S Q fuel listed n L H := fun _ a w g => h hS a w ⟨g.f.wk hL, g.hp.imp hH⟩
theorem m_any {ops : List Oper} {m : Nat} {fuel : Nat} {listed : Array Bool} (rs : List Nat) (hr : Region.ready .any ops.toArray listed = rs) (hne : rs ≠ [])
    (h : ∀ i, i ∈ rs → ∃ (d : Option Nat) (op : Op) (ty : TypeId) (pos : String) (af : Array Edge), ops[i]? = some ⟨d, op, ty, pos, af, none⟩ ∧ inB n d = true ∧ Ld E n L H ⟨d, op, ty, pos, af, none⟩ (fun v H' => (∀ k, stars H' k → stars S k) ∧ WPM E ops m S Q fuel (listed.setIfInBounds i true) n (putL d v L) H')) :
    WPM E ops m S Q (fuel + 1) listed n L H := fun _ a w g =>
  ⟨fun h0 => absurd (hr.symm.trans h0) hne, fun x hx => by
    rw [hr] at hx
    obtain ⟨d, op, ty, pos, af, hi, hd, hl⟩ := h x hx
    unfold wpOp
    simp only [get_toArray hi, Region.wanted, if_true]
    exact .inl (hl _ _ a w g (fun v H' w' hk hs => ⟨fun _ => hs.imp hk.1, hk.2 hk.1 _ _ ⟨g.f.put d v hd, hs⟩⟩))⟩
end Sl
namespace Go.Proofs.YtekhbjlplfbdkaaDoor
open Go Eg
structure Mk where
  kind : Int
  letter : UInt8
  left : Int
  right : Int
  times : Int
def pick (n : Int) (many : Nat) : Nat := (n % (many : Int)).toNat
theorem pick_lt (n : Int) {many : Nat} (h : 1 ≤ many) : pick n many < many := by
  unfold pick
  have h1 := Int.emod_nonneg n (b := (many : Int)) (by omega)
  have h2 := Int.emod_lt_of_pos n (b := (many : Int)) (by omega)
  omega
def addR (L : List Rl) (r : Rl) : List Rl × Nat := if idOf L r = 0 then (L ++ [r], L.length + 1) else (L, idOf L r)
theorem addR_le (L : List Rl) (r : Rl) : (addR L r).2 ≤ (addR L r).1.length ∧ L.length ≤ (addR L r).1.length ∧ (addR L r).1.length ≤ L.length + 1 := by
  unfold addR
  split
  · simp
  · rename_i h
    have hm : r ∈ L := Classical.byContradiction fun hn => h (idOf_zero.2 hn)
    obtain ⟨h1, h2⟩ := idOf_some hm
    have := (List.getElem?_eq_some_iff.1 h2).1
    simp only
    omega
theorem addR_eq {L M : List Rl} {r : Rl} {id : Nat} (hw : Wf (L ++ M)) (h1 : 1 ≤ id) (h : (L ++ M)[id - 1]? = some r) (hM : M = [] ∨ M = [r]) : addR L r = (L ++ M, id) := by
  unfold addR
  rcases hM with rfl | rfl
  · rw [List.append_nil] at h hw ⊢
    have hm := List.mem_of_getElem? h
    obtain ⟨g1, g2⟩ := idOf_some hm
    have := hw.nodup _ _ _ h g2
    rw [if_neg (by omega)]
    simp only [Prod.mk.injEq, true_and]
    omega
  · have hn : r ∉ L := fun hm => by
      obtain ⟨k, hk⟩ := List.getElem?_of_mem hm
      have hkl := (List.getElem?_eq_some_iff.1 hk).1
      have := hw.nodup k L.length r (by rw [List.getElem?_append_left hkl]; exact hk) (by simp)
      omega
    rw [if_pos (idOf_zero.2 hn)]
    have e := hw.nodup (id - 1) L.length r h (by simp)
    simp only [Prod.mk.injEq, true_and]
    omega
def oneR (L : List Rl) (res : List Nat) (m : Mk) : List Rl × Nat :=
  let l := (res[pick m.left res.length]?).getD 0
  let r := (res[pick m.right res.length]?).getD 0
  if pick m.kind 4 = 0 then addR L (.letter m.letter)
  else if pick m.kind 4 = 3 then
    if l = 0 ∨ m.times ≤ 0 ∨ ((maxLength / len L l : Nat) : Int) < m.times then (L, 0)
    else if m.times = 1 then (L, l) else addR L (.power l m.times.toNat)
  else if l = 0 then (L, r) else if r = 0 then (L, l)
  else if maxLength < len L l + len L r then (L, 0) else addR L (.pair l r)
def bld (ms : List Mk) : Nat → List Rl × List Nat
  | 0 => ([], [0])
  | k + 1 => match ms[k]? with
    | none => bld ms k
    | some m => ((oneR (bld ms k).1 (bld ms k).2 m).1, (bld ms k).2 ++ [(oneR (bld ms k).1 (bld ms k).2 m).2])
theorem bld_succ {ms : List Mk} {k : Nat} {m : Mk} (h : ms[k]? = some m) : bld ms (k + 1) = ((oneR (bld ms k).1 (bld ms k).2 m).1, (bld ms k).2 ++ [(oneR (bld ms k).1 (bld ms k).2 m).2]) := by
  rw [bld, h]
theorem bld_len {ms : List Mk} : ∀ k, k ≤ ms.length → (bld ms k).2.length = k + 1
  | 0, _ => rfl
  | k + 1, h => by
    have e : ms[k]? = some (ms[k]'(by omega)) := List.getElem?_eq_getElem (by omega)
    rw [bld_succ e]
    simp [bld_len (ms := ms) k (by omega)]
theorem oneR_le {L : List Rl} {res : List Nat} (h : ∀ x ∈ res, x ≤ L.length) (m : Mk) : (oneR L res m).2 ≤ (oneR L res m).1.length ∧ L.length ≤ (oneR L res m).1.length ∧ (oneR L res m).1.length ≤ L.length + 1 := by
  have hx : ∀ i : Nat, (res[i]?).getD 0 ≤ L.length := fun i => by
    cases e : res[i]? with
    | none => simp
    | some x => exact h x (List.mem_of_getElem? e)
  have hl := hx (pick m.left res.length)
  have hr := hx (pick m.right res.length)
  have key : ∀ n, n ≤ L.length → ((L, n) : List Rl × Nat).2 ≤ ((L, n) : List Rl × Nat).1.length ∧ L.length ≤ ((L, n) : List Rl × Nat).1.length ∧ ((L, n) : List Rl × Nat).1.length ≤ L.length + 1 := fun n hn => ⟨hn, Nat.le_refl _, by simp⟩
  unfold oneR
  simp only
  split
  · exact addR_le _ _
  · split
    · split
      · exact key 0 (Nat.zero_le _)
      · split
        · exact key _ hl
        · exact addR_le _ _
    · split
      · exact key _ hr
      · split
        · exact key _ hl
        · split
          · exact key 0 (Nat.zero_le _)
          · exact addR_le _ _
theorem bld_le {ms : List Mk} : ∀ k, k ≤ ms.length → (∀ x ∈ (bld ms k).2, x ≤ (bld ms k).1.length) ∧ (bld ms k).1.length ≤ k
  | 0, _ => by simp [bld]
  | k + 1, h => by
    obtain ⟨h1, h2⟩ := bld_le (ms := ms) k (by omega)
    have e : ms[k]? = some (ms[k]'(by omega)) := List.getElem?_eq_getElem (by omega)
    have := oneR_le h1 (ms[k]'(by omega))
    rw [bld_succ e]
    refine ⟨fun x hx => ?_, by simp only; omega⟩
    simp only at hx ⊢
    rcases List.mem_append.1 hx with hx | hx
    · have := h1 x hx; omega
    · have := List.mem_singleton.1 hx; omega
end Go.Proofs.YtekhbjlplfbdkaaDoor
namespace Sl
open Go Go.RowKit
variable {E : Env} {n : Nat} {L : Fr} {S : List HP} {ty : TypeId} {pos : String} {af : Array Edge} {d : Option Nat} {gd : Option (Nat × Bool)}
theorem y_remt {x y : Operand} {xt yt : TypeId} {i j : Int} {kd : IntKind} (hx : ev L x = some (.int kd i)) (hy : ev L y = some (.int kd j)) (h1 : 0 < j) :
    Yl E n L S ⟨d, .binOp .rem xt x y yt, ty, pos, af, gd⟩ (.int kd (i.tmod j)) := fun a w g _ => by
  have hj : ¬ j = 0 := by omega
  simp [execOp, eqGuard, binOp, Op.intDiv, g.ev hx, g.ev hy, hj]
end Sl
namespace Go.Proofs.YtekhbjlplfbdkaaDoor
open Go Go.RowKit Sl Eg
set_option maxRecDepth 10000
variable {E : Env}
theorem tmod_pick {n : Int} {m : Nat} (h : 1 ≤ m) : (pick n m : Int) = if n.tmod m < 0 then n.tmod m + m else n.tmod m := by
  have h1 := Int.emod_nonneg n (b := (m : Int)) (by omega)
  have h2 := Int.emod_lt_of_pos n (b := (m : Int)) (by omega)
  have h3 : (pick n m : Int) = n % (m : Int) := by unfold pick; omega
  have h4 := Int.mul_tdiv_add_tmod n (m : Int)
  have h5 := Int.mul_ediv_add_emod n (m : Int)
  rw [h3]
  by_cases hn : n < 0
  · have h6 := Int.lt_tmod_of_pos n (b := (m : Int)) (by omega)
    have h7 : n.tmod m ≤ 0 := by
      have := Int.tmod_nonneg (a := -n) (m : Int) (by omega)
      rw [Int.neg_tmod] at this
      omega
    have key : ∃ q : Int, n % (m : Int) - n.tmod m = (m : Int) * q := ⟨n.tdiv m - n / m, by rw [Int.mul_sub]; omega⟩
    obtain ⟨q, hq⟩ := key
    split
    · have q0 : 0 < q := by
        apply Classical.byContradiction
        intro hh
        have : (m : Int) * q ≤ 0 := Int.mul_nonpos_of_nonneg_of_nonpos (by omega) (by omega)
        omega
      have q1 : q < 2 := by
        apply Classical.byContradiction
        intro hh
        have : (m : Int) * 2 ≤ (m : Int) * q := Int.mul_le_mul_of_nonneg_left (by omega) (by omega)
        omega
      obtain rfl : q = 1 := by omega
      omega
    · have e : n.tmod m = 0 := by omega
      rw [e] at hq ⊢
      have q1 : q < 1 := by
        apply Classical.byContradiction
        intro hh
        have : (m : Int) * 1 ≤ (m : Int) * q := Int.mul_le_mul_of_nonneg_left (by omega) (by omega)
        omega
      have q0 : -1 < q := by
        apply Classical.byContradiction
        intro hh
        have : (m : Int) * q ≤ (m : Int) * (-1) := Int.mul_le_mul_of_nonneg_left (by omega) (by omega)
        omega
      obtain rfl : q = 0 := by omega
      omega
  · rw [Int.tmod_eq_emod_of_nonneg (by omega), if_neg (by omega)]
theorem tmod_bound {n : Int} {m : Nat} (h : 1 ≤ m) : -(m : Int) < n.tmod m ∧ n.tmod m < m := ⟨Int.lt_tmod_of_pos n (by omega), Int.tmod_lt_of_pos n (by omega)⟩
theorem ct_Pick (hE : Seat E) {n : Int} {m : Nat} (h : 1 ≤ m) (hm : m ≤ 1000000000) : Ct E 29 [.int .i64 n, .int .i64 (m : Nat)] [] (fun v Q => v = .int .i64 (pick n m : Nat) ∧ Q = []) := by
  have hp := tmod_pick (n := n) h
  have hb := tmod_bound (n := n) h
  refine fn_enter (hE.fn Tryd.func29) rfl rfl rfl (fun R => ?_)
  simp only [argsL, List.cons_append, List.nil_append]
  refine w_seq (wR ?_)
  refine lY (yA rfl) rfl ?_
  refine l_nil (aT (w_seq (wR ?_)))
  refine lY (yM rfl) rfl ?_
  refine lY (yM rfl) rfl ?_
  apply lY
  · exact y_remt rfl rfl (by omega)
  · rfl
  refine lY (yA rfl) rfl ?_
  refine l_nil (aT (w_seq (w_seq (wR ?_))))
  refine lY (yM rfl) rfl ?_
  refine lY (y_lt rfl rfl) rfl ?_
  refine l_nil (aT ?_)
  refine w_cond_d rfl (fun h1 => ?_) (fun h1 => ?_)
  · skip
    rw [if_pos h1] at hp
    rw [hp]
    refine wR ?_
    refine lY (yM rfl) rfl ?_
    refine lY (yM rfl) rfl ?_
    refine lY (y_add rfl rfl (by omega) (by omega)) rfl ?_
    refine lY (yA rfl) rfl ?_
    refine l_nil (aT (w_seq (wR ?_)))
    refine lY (yM rfl) rfl ?_
    refine lY (yA rfl) rfl ?_
    refine l_nil (aT (w_ret ?_))
    apply a_ret
    · rfl
    · (apply Rs.tmp rfl; exact Rs.nil)
    · exact ⟨rfl, rfl⟩
    · (apply ent; (repeat constructor); done)
  · skip
    rw [if_neg h1] at hp
    rw [hp]
    refine w_skip (aT (w_seq (wR ?_)))
    refine lY (yM rfl) rfl ?_
    refine lY (yA rfl) rfl ?_
    refine l_nil (aT (w_ret ?_))
    apply a_ret
    · rfl
    · (apply Rs.tmp rfl; exact Rs.nil)
    · exact ⟨rfl, rfl⟩
    · (apply ent; (repeat constructor); done)
end Go.Proofs.YtekhbjlplfbdkaaDoor
namespace Go.Proofs.YtekhbjlplfbdkaaDoor
open Go Go.RowKit Sl Eg
set_option maxRecDepth 10000
variable {E : Env} {L : List Rl}
def rusC (L : List Rl) : List Value := L.flatMap rlC
def lnC (L : List Rl) (n : Nat) : List Value := (List.range n).map fun i => .int .i64 (len L (i + 1) : Nat)
theorem lnC_at (L : List Rl) {i n : Nat} (h : i < n) (o : Nat) (ho : o = i) : (lnC L n)[o]? = some (.int .i64 (len L (i + 1) : Nat)) := by
  subst ho
  simp [lnC, h]
theorem ct_rLength (hE : Seat E) {pr pl : Option Addr} {cr cl id : Nat} (h : id ≤ L.length) (hL : L.length ≤ 1048576) : Ct E 63 [.agg #[.slice pr L.length cr, .slice pl L.length cl], .int .i64 (id : Nat)] [sl pr cr 42 5 L.length (rusC L), sl pl cl 3 1 L.length (lnC L L.length)] (fun v Q => v = .int .i64 (len L id : Nat) ∧ Q = [sl pr cr 42 5 L.length (rusC L), sl pl cl 3 1 L.length (lnC L L.length)]) := by
  refine fn_enter (hE.fn Tryd.func63) rfl rfl rfl (fun R => ?_)
  simp only [argsL, List.cons_append, List.nil_append]
  refine w_seq (wR ?_)
  apply lL (by kernel_rfl) rfl
  refine ld_box rfl (fun b2 => ?_)
  refine lY (yA rfl) rfl ?_
  refine l_nil (aT (w_seq (w_seq (wR ?_))))
  refine lY (yM rfl) rfl ?_
  refine lY (y_eq rfl rfl) rfl ?_
  refine l_nil (aT ?_)
  refine w_cond_d rfl (fun h0 => ?_) (fun h0 => ?_)
  · skip
    obtain rfl : id = 0 := by omega
    refine w_seq (wR ?_)
    refine lY (yA rfl) rfl ?_
    refine l_nil (aT (w_ret (a_then_ret ?_)))
    apply a_ret
    · rfl
    · (apply Rs.tmp rfl; exact Rs.nil)
    · exact ⟨rfl, rfl⟩
    · (apply ent; (repeat constructor); done)
  · skip
    obtain ⟨i, rfl⟩ : ∃ i, id = i + 1 := ⟨id - 1, by omega⟩
    refine w_say (p := sl pl cl 3 1 L.length (lnC L L.length)) (by ((repeat constructor); done)) (fun _ h => sl_form h (by omega)) ?_
    rintro ⟨g, rfl⟩
    have f0 := lnC_at L (i := i) (n := L.length) (by omega) ((((i + 1 : Nat) : Int)) - 1).toNat (by omega)
    refine w_skip (aT (w_seq (wR ?_)))
    refine lY (yF rfl (hE.t rfl) rfl) rfl ?_
    apply lY
    · (apply y_load rfl (hE.t rfl) rfl; (repeat (first | rfl | assumption | constructor)); done)
    · rfl
    refine lY (yM rfl) rfl ?_
    refine lY (y_sub rfl rfl (by omega) (by omega)) rfl ?_
    apply lY
    · (first | exact y_indexAddr1 rfl rfl (hE.t rfl) (by omega) (by omega) | exact y_indexAddr rfl rfl (hE.t rfl) (by omega) (by omega))
    · rfl
    apply lY
    · (apply y_load rfl (hE.t rfl) rfl; (repeat (first | rfl | assumption | constructor)); done)
    · rfl
    refine lY (yA rfl) rfl ?_
    refine l_nil (aT (w_ret ?_))
    apply a_ret
    · rfl
    · (apply Rs.tmp rfl; exact Rs.nil)
    · exact ⟨rfl, rfl⟩
    · (apply ent; (repeat constructor); done)
theorem ct_rKnown (hE : Seat E) {pr pl : Option Addr} {cr cl : Nat} {id : Int} : Ct E 13 [.agg #[.slice pr L.length cr, .slice pl L.length cl], .int .i64 id] [] (fun v Q => v = .bool (decide (0 ≤ id ∧ id ≤ (L.length : Nat))) ∧ Q = []) := by
  refine fn_enter (hE.fn Tryd.func13) rfl rfl rfl (fun R => ?_)
  simp only [argsL, List.cons_append, List.nil_append]
  refine w_seq (wR ?_)
  apply lL (by kernel_rfl) rfl
  refine ld_box rfl (fun b2 => ?_)
  refine lY (yA rfl) rfl ?_
  refine l_nil (aT (w_seq (wR ?_)))
  refine lY (yM rfl) rfl ?_
  refine lY (y_ge rfl rfl) rfl ?_
  refine lY (yM rfl) rfl ?_
  refine l_split 7 rfl (fun h1 => ?_) (fun h1 => ?_)
  · skip
    refine l_on rfl rfl ?_
    refine lY (yM rfl) rfl ?_
    refine l_on rfl rfl ?_
    refine lY (yF rfl (hE.t rfl) rfl) rfl ?_
    refine l_on rfl rfl ?_
    apply lY
    · (apply y_load rfl (hE.t rfl) rfl; (repeat (first | rfl | assumption | constructor)); done)
    · rfl
    refine l_on rfl rfl ?_
    refine lY (y_len_slice rfl (hE.t rfl)) rfl ?_
    refine l_on rfl rfl ?_
    refine lY (y_le rfl rfl) rfl ?_
    apply lY
    · (first | exact y_pick_t rfl rfl | exact y_pick_f rfl rfl)
    · rfl
    refine lY (yA rfl) rfl ?_
    refine l_nil (aT (w_ret ?_))
    apply a_ret
    · rfl
    · (apply Rs.tmp rfl; exact Rs.nil)
    · refine ⟨congrArg Value.bool ?_, rfl⟩
      by_cases h2 : id ≤ (L.length : Nat)
      · rw [decide_eq_true h2, decide_eq_true ⟨h1, h2⟩]
      · rw [decide_eq_false h2, decide_eq_false fun h => h2 h.2]
    · (apply ent; (repeat constructor); done)
  · skip
    refine l_off rfl rfl rfl rfl (l_off rfl rfl rfl rfl (l_off rfl rfl rfl rfl (l_off rfl rfl rfl rfl (l_off rfl rfl rfl rfl ?_))))
    apply lY
    · (first | exact y_pick_t rfl rfl | exact y_pick_f rfl rfl)
    · rfl
    refine lY (yA rfl) rfl ?_
    refine l_nil (aT (w_ret ?_))
    apply a_ret
    · rfl
    · (apply Rs.tmp rfl; exact Rs.nil)
    · exact ⟨congrArg Value.bool (decide_eq_false fun h => h1 h.1).symm, rfl⟩
    · (apply ent; (repeat constructor); done)
end Go.Proofs.YtekhbjlplfbdkaaDoor
