import Derived.Test.YtddfnkijolfhbaaGreatQ9F
import Derived.Carry
import Derived.ChangeArms
import Derived.ChangeSame
import Derived.ChangeSlices
import Derived.Deep.SlicePairs
import Derived.JoinedOf
import Derived.ProofKit
import Derived.RowKit
import Derived.SizedLaws
import Derived.SliceStrings
import Derived.Test.YtddfnkijolfhbaaGreatRows
set_option linter.all false
set_option maxHeartbeats 1000000
namespace Go.Proofs.YtddfnkijolfhbaaGreat
section
open Go Go.ChangeShapes Go.WideShapes Go.ChangeAt Go.WideMaps Go.WideElems Go.RowKit Go.ChangeMaps Sl
theorem own : ownKnob Tryz.prog.godebug = none := by kernel_rfl
theorem laidOut : laidOutB Tryz.prog = true := by kernel_rfl
theorem boolT : Tryz.prog.underlying 4 = some .bool := by kernel_rfl
theorem qPn {H : Type} {enc : TypeId × Value → H} {P : Program} (hlo : laidOutB P = true) {W W' : World} (hb : Below W.heap.size W W') : ∀ (ts : List TypeId) (vs : List Value) (ds : List (DataW H)) (ps : List MemPlace),
  (ts.all fun t => P.readableRec t && decide (t < P.types.size)) = true → (∀ x ∈ ps, x.block < W.heap.size) → DataW.TrodAll enc P W 0 (fun _ => true) true ts vs ds ps → DataW.TrodAll enc P W' 0 (fun b => decide (b < W.heap.size)) true ts vs ds ps := by
 intro ts
 induction ts with
 | nil =>
  intro vs ds ps _ _ h
  cases vs <;> cases ds <;> first | exact h | exact h.elim
 | cons t ts ih =>
  intro vs ds ps ht hl h
  cases vs with
  | nil => cases ds <;> exact h.elim
  | cons v vs =>
   cases ds with
   | nil => exact h.elim
   | cons d ds =>
    obtain ⟨p, q, h1, h2, rfl⟩ := h
    simp only [List.all_cons, Bool.and_eq_true, decide_eq_true_eq] at ht
    exact ⟨p, q, Below.trod hlo ht.1.1 ht.1.2 h1 hb (fun x hx => hl x (List.mem_append_left _ hx)), ih vs ds q ht.2 (fun x hx => hl x (List.mem_append_right _ hx)) h2, rfl⟩
theorem qUl {H : Type} {enc : TypeId × Value → H} {f : Func} {s : ChangeSpec} {W W' : World} {args : Array Value} {ds : List (DataW H)} {before : List MemPlace} (hv : s.vars = [])
  (hW : DataW.Whole enc Tryz.prog f.params.toList s.vars false W args.toList ds [] before) (hb : Below W.heap.size W W') (hts : (f.params.toList.all fun t => Tryz.prog.readableRec t && decide (t < Tryz.prog.types.size)) = true)
  (hr : f.resultTypes = #[4]) (hfn : s.fn H (ds ++ []) = { results := [.lit (.bool true)], args := ds }) : s.post enc Tryz.prog f false true false false W args (.bool true) W' := by
 have hW' := hW
 obtain ⟨p, q, hA, hV, rfl, hfz, hnd⟩ := hW
 have hlt : ∀ x ∈ p, x.block < W.heap.size := fun x hx => hW'.lt x (List.mem_append_left _ hx)
 refine ⟨ds, [], p ++ q, [], p, [], hW', ?_, ?_, ?_, hb.frame _, fun h => by cases h⟩
 ·rw [hfn, hr]; exact trodAll_mk1 (shut_bool boolT true)
 ·rw [hfn]; exact qPn laidOut hb _ _ _ _ hts hlt hA
 rw [hfn, hv]; rfl
theorem env_of (W : World) : ∃ E : Env, Seat E ∧ E.w0 = W := ⟨⟨Tryz.prog, W, tabT.find, tab_ok, by kernel_rfl⟩, ⟨rfl, rfl⟩, rfl⟩
theorem qUc {W : World} {f : FuncId} {args : List Value} (h : ∀ E : Env, Seat E → E.w0 = W → Ct E f args [] (fun v Q => v = .bool true ∧ Q = [])) : Calls Tryz.prog f ⟨args⟩ W (fun e W' => e = .returned (.bool true) ∧ Below W.heap.size W W') := by
 obtain ⟨E, hE, rfl⟩ := env_of W
 have hs : Sat E.w0 E.w0 ([] ++ [fun _ => True]) := ⟨rfl, rfl, rfl, Nat.le_refl _, fun _ _ => rfl, ⟨qDr E.w0 E.w0, fun _ => none, fun _ => .inr rfl, by funext b; simp [join], trivial, trivial⟩⟩
 have := h E hE rfl (fun _ => True) E.w0 hs
 rw [hE.P] at this
 exact this.mono fun e W' ⟨v, Qs, h1, ⟨h2, _⟩, h3⟩ => ⟨by rw [h1, h2], h3.os, h3.tape, h3.output, h3.size, h3.old⟩
theorem ct_unold {E : Env} {f : FuncId} {args : List Value} {u : Value} (h : Ct E f args [old] (fun v Q => v = u ∧ Q = [old])) : Ct E f args [] (fun v Q => v = u ∧ Q = []) := fun R w s => (h R w (s.imp fun _ x => ent_old _ x)).mono fun e w' ⟨v, Qs, h1, ⟨h2, h3⟩, h4⟩ => ⟨v, [], h1, ⟨h2, rfl⟩, by
 subst h3
 exact h4.imp (by show ∀ k, qAb [old, R] k → qAb [R] k; (apply ent; (repeat constructor); done))⟩
theorem zAh {W : World} {a : Addr} {v : Value} (h : W.cell? a = some v) : a = ⟨a.block, a.off, none⟩ := by
 obtain ⟨b, o, s⟩ := a
 cases s with
 | none => rfl
 | some x =>
  unfold World.cell? at h
  split at h
  ·simp at h
  cases h
theorem rdb_of {W : World} {a : Option Addr} {vs : List Value} (h : ∀ i v, vs[i]? = some v → ∃ a', a = some a' ∧ W.cell? (a'.add i) = some v) : Rdb W a vs old := fun hne => by
 cases vs with
 | nil => exact absurd rfl hne
 | cons v vs =>
  obtain ⟨a', rfl, h0⟩ := h 0 v rfl
  rw [show a'.add 0 = a' by simp [Addr.add]] at h0
  have e := zAh h0
  refine ⟨a'.block, a'.off, by rw [← e], rd_old fun i u hu => ?_⟩
  obtain ⟨a2, h1, h2⟩ := h i u hu
  cases h1
  rw [e, Sl.addr_add] at h2
  exact h2
def intC (zs : List Int) : List Value := zs.map fun z => .int .i64 z
theorem qNz : Tryz.prog.underlying 49 = some (.slice 3) := by kernel_rfl
theorem zAv : Tryz.prog.underlying 3 = some (.int .i64) := by kernel_rfl
theorem qXm : Tryz.prog.cellsOf 3 = 1 := by kernel_rfl
theorem qZh {z : Int} (h : (Lit.int .i64 z).wf = true) : -9223372036854775808 ≤ z ∧ z ≤ 9223372036854775807 := by
 simp only [Lit.wf, Bool.and_eq_true, decide_eq_true_eq] at h
 have h1 : (IntKind.i64.min : Int) = -9223372036854775808 := by rfl
 have h2 : (IntKind.i64.max : Int) = 9223372036854775807 := by rfl
 omega
set_option maxRecDepth 100000 in
theorem qTn {H : Type} {enc : TypeId × Value → H} {w : World} {base b0 : Nat} {r : Reach} {held : Bool} {v : Value} {d : DataW H} {ps : List MemPlace}
  (hv : Value.okWide Tryz.prog w r b0 49 v) (hd : DataW.Trod enc Tryz.prog w base (fun _ => true) held 49 v d ps) :
  ∃ (A : Option Addr) (zs : List Int) (C : Nat), v = .slice A zs.length C ∧ Rdb w A (intC zs) old ∧ (∀ z ∈ zs, -9223372036854775808 ≤ z ∧ z ≤ 9223372036854775807) ∧ zs.length ≤ maxLen := by
 obtain ⟨a, len, cap, rfl⟩ := okWide_slice qNz hv
 obtain ⟨fuel, hf⟩ := hd
 simp only [Value.cells] at hf
 rcases open_ints qNz zAv qXm hf with ⟨h1, h2⟩ | ⟨a', len', cap', zs, h1, hb, hl, hm, hzl, hx, hcell, hwf⟩
 ·simp at h1
  obtain ⟨rfl, rfl, rfl⟩ := h1
  exact ⟨none, [], 0, rfl, fun h => absurd rfl h, by simp, Nat.zero_le _⟩
 simp at h1
 obtain ⟨rfl, rfl, rfl⟩ := h1
 simp only [if_true] at hzl
 have hlen : (zs.take len).length = len := by simp; omega
 refine ⟨some a', zs.take len, cap, by rw [hlen], rdb_of fun i v hv => ⟨a', rfl, ?_⟩, fun z hz => qZh (hwf z (List.mem_of_mem_take hz)), by rw [hlen]; omega⟩
 unfold intC at hv
 rw [List.getElem?_map, Option.map_eq_some_iff] at hv
 obtain ⟨z, hz, rfl⟩ := hv
 have hi : i < len := by
  have := (List.getElem?_eq_some_iff.1 hz).1
  omega
 rw [List.getElem?_take, if_pos hi] at hz
 rw [hcell i (by omega), List.getD_eq_getElem?_getD, hz]
 rfl
end
section
open Go Go.ChangeShapes Go.WideShapes Go.ChangeAt Go.WideMaps Go.WideElems Go.RowKit Go.ChangeMaps Sl Eg
instance : Inhabited (List UInt8 × List UInt8) := ⟨([], [])⟩
set_option maxRecDepth 100000 in
theorem qZr {H : Type} {enc : TypeId × Value → H} {w : World} {base b0 : Nat} {r : Reach} {held : Bool} {v : Value} {d : DataW H} {ps : List MemPlace}
  (hv : Value.okWide Tryz.prog w r b0 48 v) (hd : DataW.Trod enc Tryz.prog w base (fun _ => true) held 48 v d ps) :
  ∃ (A : Option Addr) (l : List (List UInt8 × List UInt8)) (C : Nat), v = .slice A l.length C ∧ Rdb w A (ssC l) old ∧ l.length ≤ maxLen := by
 have hu : Tryz.prog.underlying 48 = some (.slice 51) := by kernel_rfl
 obtain ⟨a, len, cap, rfl⟩ := okWide_slice hu hv
 obtain ⟨fuel, hf⟩ := hd
 simp only [Value.cells] at hf
 rcases Go.Deep.open_slice_pairs hu Tryz.underlying51 (by kernel_rfl) rfl rfl (by kernel_rfl) (by kernel_rfl) hf with ⟨h1, h2⟩ | ⟨a', len', cap', m, n, V0, V1, D0, D1, P0, P1, h1, hb, hl, hm, hmm, hx, hcell⟩
 ·simp at h1
  obtain ⟨rfl, rfl, rfl⟩ := h1
  exact ⟨none, [], 0, rfl, fun h => absurd rfl h, Nat.zero_le _⟩
 simp at h1
 obtain ⟨rfl, rfl, rfl⟩ := h1
 have hml : len ≤ m := by rw [hmm]; split <;> omega
 obtain ⟨M, hM⟩ := Go.Deep.choose_lt (n := len) (p := fun i (x : List UInt8 × List UInt8) => V0 i = .string ⟨⟨x.1⟩⟩ ∧ V1 i = .string ⟨⟨x.2⟩⟩) (fun i hi => by
  obtain ⟨c0, c1, t0, t1⟩ := hcell i (by omega)
  obtain ⟨⟨⟨nm⟩⟩, e0, _, _⟩ := DataW.trod_string (by kernel_rfl) t0
  obtain ⟨⟨⟨tx⟩⟩, e1, _, _⟩ := DataW.trod_string (by kernel_rfl) t1
  simp at e0 e1
  exact ⟨(nm, tx), e0, e1⟩)
 have hlen : ((List.range len).map M).length = len := by simp
 have hget : ∀ i, i < len → ((List.range len).map M)[i]? = some (M i) := fun i hi => by simp [hi]
 refine ⟨some a', (List.range len).map M, cap, by rw [hlen], rdb_of fun i v hv => ⟨a', rfl, ?_⟩, by rw [hlen]; omega⟩
 have hi : i < len * 2 := by
  have := (List.getElem?_eq_some_iff.1 hv).1
  rwa [qTt, hlen] at this
 have hk : i / 2 < len := by omega
 obtain ⟨k0, k1⟩ := qRz (hget _ hk) (i / 2 * 2) rfl
 obtain ⟨c0, c1, _, _⟩ := hcell (i / 2) (by omega)
 obtain ⟨m0, m1⟩ := hM _ hk
 rcases Nat.mod_two_eq_zero_or_one i with hp | hp
 ·rw [show i / 2 * 2 = i by omega] at c0 k0
  rw [k0] at hv
  rw [c0, m0]
  exact hv
 rw [show i / 2 * 2 + 1 = i by omega] at c1 k1
 rw [k1] at hv
 rw [c1, m1]
 exact hv
end
end Go.Proofs.YtddfnkijolfhbaaGreat
namespace Sl
open Go Go.RowKit
variable {E : Env} {n : Nat} {L : Fr} {S : List HP} {ty : TypeId} {pos : String} {af : Array Edge} {d : Option Nat} {gd : Option (Nat × Bool)}
theorem qJq {x y : Operand} {t yt : TypeId} {a b : Bool} {sz : Nat} {zs : List Value} (hx : ev L x = some (.bool a)) (hy : ev L y = some (.bool b)) (ht : E.tab t = some ⟨.bool, sz, zs⟩) :
  Yl E n L S ⟨d, .binOp .neq t x y yt, ty, pos, af, gd⟩ (.bool (decide (¬ a = b))) := fun o w g _ => by
 have hu := tab_bool ht
 have h1 : (eqGuard .neq t x y (.bool a) (.bool b)).run E.P w = .ok () w := by unfold eqGuard; simp
 have h2 : binOp .neq t (.bool a) (.bool b) = (do pure (.bool (!(← Op.equal t (.bool a) (.bool b))))) := rfl
 have h3 := run_equal_bool (P := E.P) w t a b hu
 simp [execOp, h1, h2, h3, g.ev hx, g.ev hy]
 cases a <;> cases b <;> rfl
end Sl
namespace Go.Proofs.YtddfnkijolfhbaaGreat
open Go Go.RowKit Sl Eg
set_option maxRecDepth 10000
variable {E : Env}
theorem qQr (hE : Seat E) {n : List UInt8} : Ct E 15 [.string ⟨⟨n⟩⟩] [] (fun v Q => v = .bool (decide (1 ≤ n.length ∧ n.length ≤ 32)) ∧ Q = []) := by
 have hs : (⟨⟨n⟩⟩ : ByteArray).size = n.length := rfl
 refine zQ (hE.fn Tryz.func15) rfl rfl rfl (fun R => ?_)
 simp only [qAd, uV, uW]
 refine qM (qK (uA rfl (qN (qL (qM (qK (uM rfl (uB (qAu rfl (hE.t rfl)) ?_))))))))
 refine uB (y_gt rfl rfl) ?_
 refine uM rfl ?_
 refine qAj 6 rfl (fun c1 => ?_) (fun c1 => ?_)
 ·refine kR rfl rfl ?_
  refine uM rfl (kR rfl rfl (uB (qAu rfl (hE.t rfl)) ?_))
  refine kR rfl rfl (uB (y_le rfl rfl) ?_)
  refine uB (qZ rfl rfl) ?_
  refine uA rfl (qN (qL (kD ?_)))
  apply kE
  ·rfl
  ·(apply Rs.tmp rfl; exact Rs.nil)
  ·refine ⟨congrArg Value.bool ?_, rfl⟩
   rw [Bool.eq_iff_iff]
   simp only [decide_eq_true_eq]
   omega
  exact uI
 refine zV rfl rfl rfl rfl (zV rfl rfl rfl rfl (zV rfl rfl rfl rfl ?_))
 refine uB (zA rfl rfl) ?_
 refine uA rfl (qN (qL (kD ?_)))
 apply kE
 ·rfl
 ·(apply Rs.tmp rfl; exact Rs.nil)
 ·refine ⟨congrArg Value.bool ?_, rfl⟩
  rw [Bool.eq_iff_iff]
  simp only [decide_eq_true_eq, Bool.false_eq_true, false_iff]
  omega
 exact uI
theorem qNe (hE : Seat E) {n : List UInt8} (h : 1 ≤ n.length ∧ n.length ≤ 32) : Ct E 15 [.string ⟨⟨n⟩⟩] [] (fun v Q => v = .bool true ∧ Q = []) :=
 (qQr hE).mono fun v Q ⟨h1, h2⟩ => ⟨by rw [h1, decide_eq_true h], h2⟩
theorem qNd (hE : Seat E) {n : List UInt8} (h : ¬ (1 ≤ n.length ∧ n.length ≤ 32)) : Ct E 15 [.string ⟨⟨n⟩⟩] [] (fun v Q => v = .bool false ∧ Q = []) :=
 (qQr hE).mono fun v Q ⟨h1, h2⟩ => ⟨by rw [h1, decide_eq_false h], h2⟩
structure ErG where
 v : Value
 e : Value
theorem qKd (hE : Seat E) {n : List UInt8} {id : Int} (hi1 : -9223372036854775808 ≤ id) (hi2 : id ≤ 9223372036854775807) : Ct E 3 [.string ⟨⟨n⟩⟩, .int .i64 id] [] (fun v Q => v = .bool true ∧ Q = []) := by
 have hs : (⟨⟨n⟩⟩ : ByteArray).size = n.length := rfl
 refine zQ (hE.fn Tryz.func3) rfl rfl rfl (fun R => ?_)
 simp only [qAd, uV, uW]
 refine qM (qK (uA rfl (qN (qL (qM (qM (qK (uX (qUe hE) rfl ?_))))))))
 rintro _ _ ⟨rfl, rfl⟩
 simp only [uV, uW]
 refine uB (qAz rfl) ?_
 refine qN (qL (zF rfl (zD (qL (qM (qK (uX (qUg (n0 := n) (n1 := n ++ qAk) hE) rfl ?_)))))))
 rintro _ _ ⟨a, rfl, rfl⟩
 simp only [uV, uW]
 refine uA rfl (qN (qL (qM (qK (uX (qQl hE) rfl ?_)))))
 rintro _ _ ⟨rfl, rfl⟩
 simp only [uV, uW]
 refine uM rfl (uB (qW rfl rfl) (uB (qW rfl rfl) (uA rfl (uA rfl (qN (qL ?_))))))
 refine qCq (fun z : ErG => [(0, .string ⟨⟨n⟩⟩), (1, .int .i64 id), (6, .pointer none), (7, .iface 31 (.int .i64 5)), (8, z.v), (9, z.e)]) (fun _ => [R]) (fun z => ((1 ≤ n.length ∧ n.length ≤ 28) ∧ z.e = .nilIface) ∨ (¬ (1 ≤ n.length ∧ n.length ≤ 28) ∧ z = ⟨.pointer none, .iface 31 (.int .i64 13)⟩)) ?_ ?_
 ·by_cases hn : 1 ≤ n.length ∧ n.length ≤ 28
  ·refine qK ?_
   refine uM rfl (uM rfl ?_)
   refine uX (qUf (n0 := n) (x0 := none) (ts := []) (most := 1048576) hE hn.1 hn.2 Fil.nil.has Fil.nil.pay (by decide) trivial qUy (by decide) (Nat.le_refl _) (fun x k h => by cases h)) rfl ?_
   rintro _ _ ⟨d1, s1, Es1, rfl, hEs1, rfl⟩
   simp only [uV, uW]
   refine uM rfl (uB (qW rfl rfl) (uB (qW rfl rfl) (uA rfl (uA rfl (qN ?_)))))
   refine qAw (ι := ErG) ⟨_, _⟩ (.inl ⟨hn, rfl⟩) ⟨rfl, rfl, rfl, rfl, rfl, rfl, trivial⟩ ?_
   exact uI
  refine qK ?_
  refine uM rfl (uM rfl (uX (qOh hE hn) rfl ?_))
  rintro _ _ ⟨rfl, rfl⟩
  simp only [uV, uW]
  refine uM rfl (uB (qW rfl rfl) (uB (qW rfl rfl) (uA rfl (uA rfl (qN ?_)))))
  refine qAw (ι := ErG) ⟨_, _⟩ (.inr ⟨hn, rfl⟩) ⟨rfl, rfl, rfl, rfl, rfl, rfl, trivial⟩ ?_
  exact uI
 rintro ⟨v, e⟩ hz
 simp only at hz ⊢
 refine qCq (fun _ : Unit => [(0, .string ⟨⟨n⟩⟩), (1, .int .i64 id)]) (fun _ => [R]) (fun _ => True) ?_ ?_
 ·rcases hz with ⟨hn, rfl⟩ | ⟨hn, hz⟩
  ·refine qM (qK ?_)
   refine uM rfl (uB (qLb rfl (hE.t rfl)) ?_)
   refine uM rfl (kR rfl rfl (uM rfl (kR rfl rfl (uX (qOe (i := 5) hE (by omega)) rfl ?_))))
   rintro _ _ ⟨rfl, rfl⟩
   simp only [uV, uW]
   refine kR rfl rfl (uB (qAz rfl) ?_)
   refine uB (zA rfl rfl) ?_
   refine uM rfl (kR rfl rfl (uM rfl (kR rfl rfl (uB (qTz rfl (hE.t rfl)) ?_))))
   refine kR rfl rfl (uM rfl (kR rfl rfl (uB (qAu rfl (hE.t rfl)) ?_)))
   refine kR rfl rfl (uB (y_gt rfl rfl) ?_)
   refine kR rfl rfl (uM rfl ?_)
   refine l_eq 42 (.bool true) rfl (congrArg Value.bool (decide_eq_true (by omega))) ?_
   refine kR rfl rfl (uM rfl (kR rfl rfl (uB (qAu rfl (hE.t rfl)) ?_)))
   refine kR rfl rfl (uB (y_le rfl rfl) ?_)
   refine kR rfl rfl (uB (qZ rfl rfl) ?_)
   refine l_eq 46 (.bool true) rfl (congrArg Value.bool (decide_eq_true (by omega))) ?_
   refine kR rfl rfl (uB (qJq rfl rfl (hE.t rfl)) ?_)
   refine l_eq 47 (.bool false) rfl (by simp) ?_
   refine uB (zA rfl rfl) ?_
   refine uM rfl (kR rfl rfl (uM rfl (kR rfl rfl (uB (qAe rfl (hE.t rfl)) ?_))))
   refine kR rfl rfl (uM rfl ?_)
   refine zV rfl rfl rfl rfl (zV rfl rfl rfl rfl (zV rfl rfl rfl rfl (qTh rfl rfl rfl (qTh rfl rfl rfl (qTh rfl rfl rfl (zV rfl rfl rfl rfl (kR rfl rfl ?_)))))))
   refine uB (zA rfl rfl) ?_
   refine uB (zA rfl rfl) ?_
   refine qN (qL (zF rfl (zD ?_)))
   refine qAw (ι := Unit) () trivial ⟨rfl, rfl, trivial⟩ ?_
   exact uI
  cases hz
  refine qM (qK (uM rfl (uB (qLb rfl (hE.t rfl)) ?_)))
  refine uM rfl (kR rfl rfl (uM rfl (kR rfl rfl (uX (qOe (i := 5) hE (by omega)) rfl ?_))))
  rintro _ _ ⟨rfl, rfl⟩
  simp only [uV, uW]
  refine kR rfl rfl (uB (qAz rfl) ?_)
  refine uB (zA rfl rfl) ?_
  refine uM rfl (kR rfl rfl (uM rfl (kR rfl rfl (uB (qVe rfl (hE.t rfl)) ?_))))
  refine kR rfl rfl (uM rfl (kR rfl rfl (uB (qAu rfl (hE.t rfl)) ?_)))
  refine kR rfl rfl (uB (y_gt rfl rfl) ?_)
  refine kR rfl rfl (uM rfl ?_)
  by_cases hc : 0 < n.length
  ·refine l_eq 42 (.bool true) rfl (congrArg Value.bool (decide_eq_true (by omega))) ?_
   refine kR rfl rfl (uM rfl (kR rfl rfl (uB (qAu rfl (hE.t rfl)) ?_)))
   refine kR rfl rfl (uB (y_le rfl rfl) ?_)
   refine kR rfl rfl (uB (qZ rfl rfl) ?_)
   refine l_eq 46 (.bool false) rfl (congrArg Value.bool (decide_eq_false (by omega))) ?_
   refine kR rfl rfl (uB (qJq rfl rfl (hE.t rfl)) ?_)
   refine l_eq 47 (.bool false) rfl (by simp) ?_
   refine uB (zA rfl rfl) ?_
   refine uM rfl (kR rfl rfl (uM rfl (kR rfl rfl (uB (qLa rfl (hE.t rfl)) ?_))))
   refine kR rfl rfl (uM rfl (kR rfl rfl (uM rfl (kR rfl rfl (uB (qLb rfl (hE.t rfl)) ?_)))))
   refine kR rfl rfl (uM rfl (kR rfl rfl (uM rfl (kR rfl rfl (uX (qOe (i := 13) hE (by omega)) rfl ?_)))))
   rintro _ _ ⟨rfl, rfl⟩
   simp only [uV, uW]
   refine kR rfl rfl (uB (qAz rfl) ?_)
   refine kR rfl rfl (uB (zA rfl rfl) ?_)
   refine kR rfl rfl (uB (qZ rfl rfl) ?_)
   refine uB (zA rfl rfl) ?_
   refine qN (qL (zF rfl (zD ?_)))
   refine qAw (ι := Unit) () trivial ⟨rfl, rfl, trivial⟩ ?_
   exact uI
  refine l_eq 42 (.bool false) rfl (congrArg Value.bool (decide_eq_false (by omega))) ?_
  refine zV rfl rfl rfl rfl (zV rfl rfl rfl rfl (zV rfl rfl rfl rfl (kR rfl rfl ?_)))
  refine uB (zA rfl rfl) ?_
  refine kR rfl rfl (uB (qJq rfl rfl (hE.t rfl)) ?_)
  refine l_eq 47 (.bool false) rfl (by simp) ?_
  refine uB (zA rfl rfl) ?_
  refine uM rfl (kR rfl rfl (uM rfl (kR rfl rfl (uB (qLa rfl (hE.t rfl)) ?_))))
  refine kR rfl rfl (uM rfl (kR rfl rfl (uM rfl (kR rfl rfl (uB (qLb rfl (hE.t rfl)) ?_)))))
  refine kR rfl rfl (uM rfl (kR rfl rfl (uM rfl (kR rfl rfl (uX (qOe (i := 13) hE (by omega)) rfl ?_)))))
  rintro _ _ ⟨rfl, rfl⟩
  simp only [uV, uW]
  refine kR rfl rfl (uB (qAz rfl) ?_)
  refine kR rfl rfl (uB (zA rfl rfl) ?_)
  refine kR rfl rfl (uB (qZ rfl rfl) ?_)
  refine uB (zA rfl rfl) ?_
  refine qN (qL (zF rfl (zD ?_)))
  refine qAw (ι := Unit) () trivial ⟨rfl, rfl, trivial⟩ ?_
  exact uI
 rintro - -
 refine qM (qK (uX (qOk hE) rfl ?_))
 rintro _ _ ⟨a, rfl, rfl⟩
 simp only [uV, uW]
 refine uX (qEi (k := 0) (j := 0) (tm0 := tm00) hE (by omega)) rfl ?_
 rintro _ _ ⟨d, rfl, rfl⟩
 simp only [uV, uW]
 refine uM rfl (uB (qW rfl rfl) (uB (qW rfl rfl) (uA rfl (uA rfl (qN (qL (qM (qM (qK (uM rfl (uB (qAz rfl) ?_)))))))))))
 refine qN (qL (zF rfl (zD (qL (qM (qK (uA rfl (qN (qL ?_)))))))))
 refine qIm (p := dbP d a tm00 tm00 0 0) (ps := fun i : {i : DbG // DB (rls i.Es) i.V i.f i.ch i.x0 tm00 0 0 ∧ FB i.x0 tm00 0 0} => [dsP d a flN i.1.s i.1.f i.1.ch i.1.V (flen i.1.x0), zT i.1.s 1048576 i.1.Es, fsP a flN (flN ++ qAk) i.1.x0 none Pwr.on]) uK (fun k ⟨i, hi, h⟩ => ⟨⟨i, hi⟩, h⟩) ?_
 rintro ⟨⟨Es, s, V, f, ch, x0⟩, hd, hb⟩
 simp only at hd hb ⊢
 have hl := hd.len
 rw [zS] at hl
 simp only [uV, uW]
 refine qCq (fun z : Int => [(0, .string ⟨⟨n⟩⟩), (1, .int .i64 id), (10, uPt d), (12, .int .i64 z)]) (fun _ => [dsP d a flN s f ch V (flen x0), zT s 1048576 Es, R]) (fun z => z = if id = 0 then 0 else 1) ?_ ?_
 ·refine qM (qK ?_)
  refine uM rfl (uB (y_lt rfl rfl) ?_)
  refine uM rfl ?_
  refine qAj 71 rfl (fun g1 => ?_) (fun g1 => ?_)
  ·refine zV rfl rfl rfl rfl (zV rfl rfl rfl rfl (zV rfl rfl rfl rfl (zV rfl rfl rfl rfl (zV rfl rfl rfl rfl ?_))))
   refine uB (qZ rfl rfl) ?_
   refine qN (qL (zH rfl (qK (uA rfl (qN ?_)))))
   refine qAw (ι := Int) 1 (by rw [if_neg (by omega)]) ⟨rfl, rfl, rfl, rfl, trivial⟩ ?_
   exact uI
  refine kR rfl rfl (uM rfl (kR rfl rfl (uM rfl (kR rfl rfl (uX (qFq hE) rfl ?_)))))
  rintro _ _ ⟨rfl, rfl⟩
  simp only [uV, uW]
  refine kR rfl rfl (uX (qYj hE) rfl ?_)
  rintro _ _ ⟨rfl, rfl⟩
  simp only [uV, uW]
  refine kR rfl rfl (uB (y_gt rfl rfl) ?_)
  refine uB (zA rfl rfl) ?_
  refine qN (qL ?_)
  refine zG rfl (fun g2 => ?_) (fun g2 => ?_)
  ·refine qK ?_
   refine uA rfl (qN ?_)
   refine qAw (ι := Int) 1 (by rw [if_neg (by omega)]) ⟨rfl, rfl, rfl, rfl, trivial⟩ ?_
   exact uI
  refine zD ?_
  refine qAw (ι := Int) 0 (by rw [if_pos (by omega)]) ⟨rfl, rfl, rfl, rfl, trivial⟩ ?_
  exact uI
 rintro z hz
 refine qCq (fun z : Int => [(0, .string ⟨⟨n⟩⟩), (1, .int .i64 id), (10, uPt d), (12, .int .i64 z)]) (fun _ => [dsP d a flN s f ch V (flen x0), zT s 1048576 Es, R]) (fun w => (okN n ∧ w = z) ∨ (¬ okN n ∧ w = 13)) ?_ ?_
 ·by_cases hk : 1 ≤ n.length ∧ n.length ≤ 32
  ·refine qM (qK ?_)
   refine uM rfl (uX (qNe hE hk) rfl ?_)
   rintro _ _ ⟨rfl, rfl⟩
   simp only [uV, uW]
   refine uB (qAz rfl) ?_
   refine qN (qL (zF rfl (zD ?_)))
   refine qAw (ι := Int) z (.inl ⟨hk, rfl⟩) ⟨rfl, rfl, rfl, rfl, trivial⟩ ?_
   exact uI
  refine qM (qK ?_)
  refine uM rfl (uX (qNd hE hk) rfl ?_)
  rintro _ _ ⟨rfl, rfl⟩
  simp only [uV, uW]
  refine uB (qAz rfl) ?_
  refine qN (qL (zH rfl (qK (uA rfl (qN ?_)))))
  refine qAw (ι := Int) 13 (.inr ⟨hk, rfl⟩) ⟨rfl, rfl, rfl, rfl, trivial⟩ ?_
  exact uI
 rintro w hw
 refine qCq (fun _ : Unit => [(0, .string ⟨⟨n⟩⟩), (1, .int .i64 id)]) (fun _ => [R]) (fun _ => True) ?_ ?_
 ·rcases hw with ⟨hk, rfl⟩ | ⟨hk, rfl⟩
  ·by_cases hid : id = 0
   ·subst hid
    obtain rfl : w = 0 := by rw [hz, if_pos rfl]
    refine qM (qK (uM rfl (uM rfl (uM rfl (uX (qYb (id := 0) hE hk (Nat.zero_le _)) rfl ?_)))))
    rintro _ _ ⟨rfl, rfl⟩
    simp only [uV, uW]
    refine uX (ct_Num0 hE) rfl ?_
    rintro _ _ ⟨rfl, rfl⟩
    simp only [uV, uW]
    refine uM rfl (uB (y_ne rfl rfl) ?_)
    refine qN (qL ?_)
    refine zG rfl (fun hf => ?_) (fun hf => ?_)
    ·exact absurd rfl hf
    refine zD ?_
    refine qAw (ι := Unit) () trivial ⟨rfl, rfl, trivial⟩ ?_
    exact uI
   obtain rfl : w = 1 := by rw [hz, if_neg hid]
   refine qM (qK (uM rfl (uM rfl (uM rfl (uX (qOi (Es := Es) (s := s) (most := 1048576) hE hk (by omega)) rfl ?_)))))
   rintro _ _ ⟨rfl, rfl⟩
   simp only [uV, uW]
   refine uX (qXw hE) rfl ?_
   rintro _ _ ⟨rfl, rfl⟩
   simp only [uV, uW]
   refine uM rfl (uB (y_ne rfl rfl) ?_)
   refine qN (qL ?_)
   refine zG rfl (fun hf => ?_) (fun hf => ?_)
   ·exact absurd rfl hf
   refine zD ?_
   refine qAw (ι := Unit) () trivial ⟨rfl, rfl, trivial⟩ ?_
   exact uI
  refine qM (qK ?_)
  refine uM rfl (uM rfl (uM rfl (uX (qQm hE hk) rfl ?_)))
  rintro _ _ ⟨rfl, rfl⟩
  simp only [uV, uW]
  refine uX (qXw hE) rfl ?_
  rintro _ _ ⟨rfl, rfl⟩
  simp only [uV, uW]
  refine uM rfl (uB (y_ne rfl rfl) ?_)
  refine qN (qL ?_)
  refine zG rfl (fun hf => ?_) (fun hf => ?_)
  ·exact absurd rfl hf
  refine zD ?_
  refine qAw (ι := Unit) () trivial ⟨rfl, rfl, trivial⟩ ?_
  exact uI
 rintro - -
 refine qM (qK (uA rfl (qN (qL (qM (qK (uM rfl (uM rfl (uX (ct_nGet hE) rfl ?_)))))))))
 rintro _ _ ⟨rfl, rfl⟩
 simp only [uV, uW]
 refine uM rfl (uB (qW rfl rfl) (uB (qW rfl rfl) (uA rfl (uA rfl (qN (qL (qM (qK (uM rfl (uM rfl (uX (ct_nSet hE) rfl ?_)))))))))))
 rintro _ _ ⟨rfl, rfl⟩
 simp only [uV, uW]
 refine uX (qOe (i := 5) hE (by omega)) rfl ?_
 rintro _ _ ⟨rfl, rfl⟩
 simp only [uV, uW]
 refine uM rfl (kR rfl rfl (uM rfl (kR rfl rfl (uM rfl (kR rfl rfl (uX (ct_nDrop hE) rfl ?_))))))
 rintro _ _ ⟨rfl, rfl⟩
 simp only [uV, uW]
 refine kR rfl rfl (uX (qOe (i := 5) hE (by omega)) rfl ?_)
 rintro _ _ ⟨rfl, rfl⟩
 simp only [uV, uW]
 refine uB (qZ rfl rfl) ?_
 refine uM rfl (kR rfl rfl (uM rfl (kR rfl rfl (uX (qOe (i := 5) hE (by omega)) rfl ?_))))
 rintro _ _ ⟨rfl, rfl⟩
 simp only [uV, uW]
 refine uB (qZ rfl rfl) ?_
 refine uM rfl (kR rfl rfl (uM rfl (kR rfl rfl (uX (qVx hE) rfl ?_))))
 rintro _ _ ⟨rfl, rfl⟩
 simp only [uV, uW]
 refine kR rfl rfl (uX (qOe (i := 5) hE (by omega)) rfl ?_)
 rintro _ _ ⟨rfl, rfl⟩
 simp only [uV, uW]
 refine uB (qZ rfl rfl) ?_
 refine uM rfl (kR rfl rfl (uM rfl (kR rfl rfl (uX (qMt hE) rfl ?_))))
 rintro _ _ ⟨rfl, rfl⟩
 simp only [uV, uW]
 refine kR rfl rfl (uX (qOe (i := 5) hE (by omega)) rfl ?_)
 rintro _ _ ⟨rfl, rfl⟩
 simp only [uV, uW]
 refine uB (qZ rfl rfl) ?_
 refine uM rfl (kR rfl rfl (uM rfl (kR rfl rfl (uX (qYo hE) rfl ?_))))
 rintro _ _ ⟨rfl, rfl⟩
 simp only [uV, uW]
 refine kR rfl rfl (uB (qPu rfl (hE.t rfl)) ?_)
 refine uB (qZ rfl rfl) ?_
 refine uM rfl (kR rfl rfl (uM rfl (kR rfl rfl (uX (qYn hE) rfl ?_))))
 rintro _ _ ⟨rfl, rfl⟩
 simp only [uV, uW]
 refine kR rfl rfl (uB (uBl rfl) ?_)
 refine kR rfl rfl (uB (y_eq rfl rfl) ?_)
 refine uB (qZ rfl rfl) ?_
 refine uM rfl ?_
 refine l_eq 127 (.bool true) rfl rfl ?_
 refine kR rfl rfl (uM rfl (kR rfl rfl (uX (qYm hE) rfl ?_)))
 rintro _ _ ⟨rfl, rfl⟩
 simp only [uV, uW]
 refine kR rfl rfl (uB (qAz rfl) ?_)
 refine uB (qZ rfl rfl) ?_
 refine uM rfl (kR rfl rfl (uM rfl (kR rfl rfl (uX (qVw hE) rfl ?_))))
 rintro _ _ ⟨rfl, rfl⟩
 simp only [uV, uW]
 refine kR rfl rfl (uB (qAz rfl) ?_)
 refine uB (qZ rfl rfl) ?_
 refine uM rfl (kR rfl rfl (uM rfl (kR rfl rfl (uX (ct_nSize hE) rfl ?_))))
 rintro _ _ ⟨rfl, rfl⟩
 simp only [uV, uW]
 refine kR rfl rfl (uB (y_eq rfl rfl) ?_)
 refine uB (qZ rfl rfl) ?_
 refine uA rfl (qN (qL (kD ?_)))
 exact uZ rfl (.tmp rfl .nil) ⟨rfl, rfl⟩
end Go.Proofs.YtddfnkijolfhbaaGreat
namespace Sl
open Go Go.RowKit
variable {E : Env} {n : Nat} {L : Fr} {S : List HP} {ty : TypeId} {pos : String} {af : Array Edge} {d : Option Nat} {gd : Option (Nat × Bool)}
theorem zBe {x y : Operand} {xt yt : TypeId} {i j : Int} {kd : IntKind} (hx : ev L x = some (.int kd i)) (hy : ev L y = some (.int kd j)) (h1 : 0 < j) :
  Yl E n L S ⟨d, .binOp .rem xt x y yt, ty, pos, af, gd⟩ (.int kd (i.tmod j)) := fun a w g _ => by
 have hj : ¬ j = 0 := by omega
 simp [execOp, eqGuard, binOp, Op.intDiv, g.ev hx, g.ev hy, hj]
end Sl
namespace Go.Proofs.YtddfnkijolfhbaaGreat
open Go Go.RowKit Sl Eg
set_option maxRecDepth 10000
variable {E : Env}
theorem intC_at {zs : List Int} {i : Nat} {z : Int} (h : zs[i]? = some z) (o : Nat) (ho : o = i) : (intC zs)[o]? = some (.int .i64 z) := by
 subst ho
 unfold intC
 rw [List.getElem?_map, h]
 rfl
theorem updT_le {tm : List UInt8 → Option (List UInt8)} {m : Nat} (h : ∀ x t, tm x = some t → t.length ≤ m) {n t : List UInt8} (ht : t.length ≤ m) : ∀ x u, updT tm n t x = some u → u.length ≤ m := fun x u hu => by
 unfold updT at hu
 split at hu
 ·cases hu
  exact ht
 exact h x u hu
structure StpG where
 i : Nat
 d : Nat
 j : Nat
 tm : List UInt8 → Option (List UInt8)
 tm0 : List UInt8 → Option (List UInt8)
structure SwG where
 d : Nat
 j : Nat
 tm0 : List UInt8 → Option (List UInt8)
theorem qKe (hE : Seat E) {l : List (List UInt8 × List UInt8)} {zs : List Int} {a b : Option Addr} {ca cb : Nat} (hq : Rdb E.w0 a (ssC l) old) (hn : l.length ≤ maxLen) (hq2 : Rdb E.w0 b (intC zs) old) (hn2 : zs.length ≤ maxLen) :
  Ct E 4 [.slice a l.length ca, .slice b zs.length cb] [old] (fun v Q => v = .bool true ∧ Q = [old]) := by
 have hne : 0 < l.length → ssC l ≠ [] := fun h e => by
  have := qTt l
  rw [e] at this
  simp at this
  omega
 have hne2 : 0 < zs.length → intC zs ≠ [] := fun h e => by
  have := congrArg List.length e
  simp [intC] at this
  subst this
  simp at h
 refine zQ (hE.fn Tryz.func4) rfl rfl rfl (fun R => ?_)
 simp only [qAd, uV, uW]
 refine qM (qK (uA rfl (qN (qL (qM (qM (qK (uX (qUe hE) rfl ?_))))))))
 rintro _ _ ⟨rfl, rfl⟩
 simp only [uV, uW]
 refine uB (qAz rfl) ?_
 refine qN (qL (zF rfl (zD (qL (qM (qM (qK (uM rfl (uB (uBl rfl) ?_)))))))))
 refine uB (y_gt rfl rfl) ?_
 refine uM rfl ?_
 refine qAj 23 rfl (fun c1 => ?_) (fun c1 => ?_)
 ·refine zV rfl rfl rfl rfl (zV rfl rfl rfl rfl (zV rfl rfl rfl rfl ?_))
  refine uB (qZ rfl rfl) ?_
  refine qN (qL (zH rfl (qM (qK (uA rfl (qN (qL (kD (qY ?_)))))))))
  exact uZ rfl (.tmp rfl .nil) ⟨rfl, rfl⟩
 refine kR rfl rfl (uM rfl (kR rfl rfl (uB (uBl rfl) ?_)))
 refine kR rfl rfl (uB (y_gt rfl rfl) ?_)
 refine uB (zA rfl rfl) ?_
 refine qN (qL ?_)
 refine zG rfl (fun c2 => ?_) (fun c2 => ?_)
 ·refine qM (qK ?_)
  refine uA rfl (qN (qL (kD (qY ?_))))
  exact uZ rfl (.tmp rfl .nil) ⟨rfl, rfl⟩
 refine zD (qL (qM (qM (qK (uA rfl (qN (qL (zM ?_))))))))
 refine qAh (fun i : Nat => [(0, .slice a l.length ca), (1, .slice b zs.length cb), (5, .int .i64 (i : Nat))]) (fun i => [old, R]) (fun i => l.length - i) (fun i => i ≤ l.length ∧ ∀ p ∈ l.take i, okN p.1 ∧ p.2.length ≤ 100) 0 ⟨Nat.zero_le _, by simp⟩ ⟨rfl, rfl, rfl, trivial⟩ uI ?_
 rintro i ⟨hi, hall⟩
 refine qM (qM (qK (uM rfl (uM rfl (uB (uBl rfl) ?_)))))
 refine uB (y_lt rfl rfl) ?_
 refine qN (qL ?_)
 refine zG rfl (fun h1 => ?_) (fun h1 => ?_)
 ·have hil : i < l.length := by omega
  obtain ⟨⟨nm, tx⟩, hx⟩ : ∃ x, l[i]? = some x := ⟨_, List.getElem?_eq_getElem hil⟩
  obtain ⟨g, o, rfl, hq'⟩ := hq (hne (by omega))
  obtain ⟨f0, f1⟩ := qRz hx (((i : Nat) : Int).toNat * 2) (by omega)
  simp only at f0 f1
  have hsz : (⟨⟨tx⟩⟩ : ByteArray).size = tx.length := rfl
  refine zD (qL (qM (zM (qM (qK (uM rfl (uM rfl (uB (uAi rfl rfl) ?_))))))))
  refine uB (uBf rfl) ?_
  apply qC
  ·(apply zL rfl (hE.t rfl) rfl (by assumption); (focus ((repeat constructor); done)); (first | ((focus exact f0); (focus omega)) | ((focus exact f1); (focus omega)) | ((focus assumption); (focus omega))))
  ·rfl
  by_cases hk : 1 ≤ nm.length ∧ nm.length ≤ 32
  ·apply qJ (by kernel_rfl) rfl
   refine uC (qNe hE hk) rfl ?_
   rintro _ _ ⟨rfl, rfl⟩
   simp only [uV, uW]
   refine uB (qAz rfl) ?_
   refine uM rfl (kR rfl rfl (uM rfl (kR rfl rfl (uM rfl (kR rfl rfl (uB (uAi rfl rfl) ?_))))))
   refine kR rfl rfl (uB (uBf rfl) ?_)
   refine kR rfl rfl ?_
   apply qC
   ·(apply zL rfl (hE.t rfl) rfl (by assumption); (focus ((repeat constructor); done)); (first | ((focus exact f0); (focus omega)) | ((focus exact f1); (focus omega)) | ((focus assumption); (focus omega))))
   ·rfl
   refine kR rfl rfl (uB (qAu rfl (hE.t rfl)) ?_)
   refine kR rfl rfl (uB (y_gt rfl rfl) ?_)
   refine uB (zA rfl rfl) ?_
   refine qN (qL ?_)
   refine zG rfl (fun h2 => ?_) (fun h2 => ?_)
   ·refine qM (qK ?_)
    refine uA rfl (qN (qL (kD (zP (qY (qY (zP (qY ?_))))))))
    exact uZ rfl (.tmp rfl .nil) ⟨rfl, rfl⟩
   refine zD (zK (qL (qK (uM rfl (uB (uAa rfl rfl) ?_)))))
   refine uA rfl (qN ?_)
   refine zU (ι := Nat) (j := i + 1) ⟨by omega, ?_⟩ (by omega) ⟨rfl, rfl, congrArg some (zY (by omega)), trivial⟩ uI
   intro p hp
   rw [List.take_add_one, hx] at hp
   rcases List.mem_append.1 hp with h | h
   ·exact hall p h
   simp at h
   subst h
   exact ⟨hk, by simp only; omega⟩
  apply qJ (by kernel_rfl) rfl
  refine uC (qNd hE hk) rfl ?_
  rintro _ _ ⟨rfl, rfl⟩
  simp only [uV, uW]
  refine uB (qAz rfl) ?_
  refine uM rfl ?_
  refine zV rfl rfl rfl rfl (zV rfl rfl rfl rfl (zV rfl rfl rfl rfl (zV rfl rfl rfl rfl (zV rfl rfl rfl rfl (zV rfl rfl rfl rfl (zV rfl rfl rfl rfl ?_))))))
  refine uB (qZ rfl rfl) ?_
  refine qN (qL (zH rfl (qM (qK (uA rfl (qN (qL (kD (zP (qY (qY (zP (qY ?_)))))))))))))
  exact uZ rfl (.tmp rfl .nil) ⟨rfl, rfl⟩
 obtain rfl : i = l.length := by omega
 rw [List.take_length] at hall
 refine kK (qR (qR (zJ (qL (qM (qK (uX (qOk hE) rfl ?_)))))))
 rintro _ _ ⟨fa, rfl, rfl⟩
 simp only [uV, uW]
 refine uX (qOk hE) rfl ?_
 rintro _ _ ⟨fb, rfl, rfl⟩
 simp only [uV, uW]
 refine uA rfl (uA rfl (qN (qL (qM (qK (uM rfl (uX (qEi (a := fa) (k := 0) (j := 0) (tm0 := tm00) hE (by omega)) rfl ?_)))))))
 rintro _ _ ⟨d0, rfl, rfl⟩
 simp only [uV, uW]
 refine uM rfl (uB (qW rfl rfl) (uB (qW rfl rfl) (uA rfl (uA rfl (qN (qL (qM (qK (uM rfl ?_)))))))))
 refine uX (qEi (a := fb) (k := 0) (j := 0) (tm0 := tm00) hE (by omega)) rfl ?_
 rintro _ _ ⟨e, rfl, rfl⟩
 simp only [uV, uW]
 refine uM rfl (uB (qW rfl rfl) (uB (qW rfl rfl) (uA rfl (uA rfl (qN (qL (qM (qM (qK (uM rfl (uB (qAz rfl) ?_)))))))))))
 refine uM rfl (kR rfl rfl (uM rfl (kR rfl rfl (uB (qAz rfl) ?_))))
 refine uB (zA rfl rfl) ?_
 refine qN (qL (zF rfl (zD (qL (qM (qM (qK (uA rfl (qN (qL (zM ?_)))))))))))
 refine qAh (fun x : StpG => [(0, .slice a l.length ca), (1, .slice b zs.length cb), (6, uPt fa), (7, uPt fb), (8, .pointer (some ⟨x.d, 0, none⟩)), (10, uPt e), (12, .int .i64 (x.i : Nat))]) (fun x => [old, dbP x.d fa x.tm x.tm0 x.i x.j, dbP e fb x.tm tm00 x.i 0, R]) (fun x => l.length - x.i) (fun x => x.i ≤ l.length ∧ x.j ≤ x.i ∧ ∀ y t, x.tm y = some t → t.length ≤ 5000) ⟨0, d0, 0, tm00, tm00⟩ ⟨Nat.zero_le _, Nat.le_refl _, fun y t h => by cases h⟩ ⟨rfl, rfl, rfl, rfl, rfl, rfl, rfl, trivial⟩ uI ?_
 rintro ⟨i, d, j, tm, tm0⟩ ⟨hi, hj, htm⟩
 simp only at hi hj htm ⊢
 refine qM (qM (qK (uM rfl (uM rfl (uB (uBl rfl) ?_)))))
 refine uB (y_lt rfl rfl) ?_
 refine qN (qL ?_)
 refine zG rfl (fun h3 => ?_) (fun h3 => ?_)
 ·have hil : i < l.length := by omega
  obtain ⟨⟨nm, tx⟩, hx⟩ : ∃ x, l[i]? = some x := ⟨_, List.getElem?_eq_getElem hil⟩
  obtain ⟨hok, htx⟩ := hall _ (List.mem_of_getElem? hx)
  simp only at hok htx
  obtain ⟨g, o, rfl, hq'⟩ := hq (hne (by omega))
  obtain ⟨f0, f1⟩ := qRz hx (((i : Nat) : Int).toNat * 2) (by omega)
  simp only at f0 f1
  refine zD (qL (qM (zM (qM (qM ?_)))))
  refine uH ([old]) ?_
  refine uD 0 rfl (qD rfl) ?_
  refine uD 1 rfl (qD rfl) ?_
  refine uD 2 rfl (qD rfl) ?_
  refine uD 3 rfl (uAi rfl rfl) ?_
  refine uD 4 rfl (uBf rfl) ?_
  apply zI 5 rfl
  ·(apply zL rfl (hE.t rfl) rfl (by assumption); (focus ((repeat constructor); done)); (first | ((focus exact f0); (focus omega)) | ((focus exact f1); (focus omega)) | ((focus assumption); (focus omega))))
  ·with_reducible (repeat (first | exact qG | apply qH | apply qI))
  ·kernel_rfl
  ·rfl
  refine uD 6 rfl (qD rfl) ?_
  refine uD 7 rfl (qD rfl) ?_
  refine uD 8 rfl (uAi rfl rfl) ?_
  refine uD 9 rfl (uBf rfl) ?_
  apply zI 10 rfl
  ·(apply zL rfl (hE.t rfl) rfl (by assumption); (focus ((repeat constructor); done)); (first | ((focus exact f0); (focus omega)) | ((focus exact f1); (focus omega)) | ((focus assumption); (focus omega))))
  ·with_reducible (repeat (first | exact qG | apply qH | apply qI))
  ·kernel_rfl
  ·rfl
  apply kM 11 rfl (by kernel_rfl) rfl
  refine uC (qOl (k := i) (j := j) (tm := tm) (tm0 := tm0) (n := nm) (t := tx) hE hok htx (by omega)) rfl ?_
  rintro _ _ ⟨rfl, rfl⟩
  simp only [uV, uW]
  refine uE ?_
  refine uD 12 rfl (qAe rfl (hE.t rfl)) ?_
  refine uD 13 rfl (qD rfl) ?_
  refine uO 14 rfl rfl rfl (qD rfl) ?_
  refine uO 15 rfl rfl rfl (qD rfl) ?_
  refine uO 16 rfl rfl rfl (qD rfl) ?_
  refine uO 17 rfl rfl rfl (uAi rfl rfl) ?_
  refine uO 18 rfl rfl rfl (uBf rfl) ?_
  apply d_on 19 rfl rfl rfl
  ·(apply zL rfl (hE.t rfl) rfl (by assumption); (focus ((repeat constructor); done)); (first | ((focus exact f0); (focus omega)) | ((focus exact f1); (focus omega)) | ((focus assumption); (focus omega))))
  ·with_reducible (repeat (first | exact qG | apply qH | apply qI))
  ·kernel_rfl
  ·rfl
  refine uO 20 rfl rfl rfl (qD rfl) ?_
  refine uO 21 rfl rfl rfl (qD rfl) ?_
  refine uO 22 rfl rfl rfl (uAi rfl rfl) ?_
  refine uO 23 rfl rfl rfl (uBf rfl) ?_
  apply d_on 24 rfl rfl rfl
  ·(apply zL rfl (hE.t rfl) rfl (by assumption); (focus ((repeat constructor); done)); (first | ((focus exact f0); (focus omega)) | ((focus exact f1); (focus omega)) | ((focus assumption); (focus omega))))
  ·with_reducible (repeat (first | exact qG | apply qH | apply qI))
  ·kernel_rfl
  ·rfl
  apply qYt 25 rfl rfl rfl (by kernel_rfl) rfl
  refine uC (qOl (d := e) (a := fb) (k := i) (j := 0) (tm := tm) (tm0 := tm00) (n := nm) (t := tx) hE hok htx (by omega)) rfl ?_
  rintro _ _ ⟨rfl, rfl⟩
  simp only [uV, uW]
  refine uE ?_
  refine uO 26 rfl rfl rfl (qAe rfl (hE.t rfl)) ?_
  refine uD 27 rfl (zA rfl rfl) ?_
  refine qEa (by kernel_rfl) ?_
  refine qL (zF rfl ?_)
  have htm' : ∀ y t, updT tm nm tx y = some t → t.length ≤ 5000 := updT_le htm (by omega)
  clear htm f0 f1
  generalize updT tm nm tx = tm at htm' ⊢
  refine zD (qL (qM (qK (uA rfl (qN (qL ?_))))))
  refine qCq (fun z : SwG => [(0, .slice (some ⟨g, o, none⟩) l.length ca), (1, .slice b zs.length cb), (6, uPt fa), (7, uPt fb), (8, .pointer (some ⟨z.d, 0, none⟩)), (10, uPt e), (12, .int .i64 (i : Nat)), (13, .nilIface)]) (fun z => [old, dbP z.d fa tm z.tm0 (i + 1) z.j, dbP e fb tm tm00 (i + 1) 0, R]) (fun z => z.j ≤ i + 1) ?_ ?_
  ·refine zM (qM (qK ?_))
   refine uM rfl (uM rfl (uB (uBl rfl) ?_))
   refine uB (y_ge rfl rfl) ?_
   refine uM rfl ?_
   refine qAj 117 rfl (fun w1 => ?_) (fun w1 => ?_)
   ·refine zV rfl rfl rfl rfl (zV rfl rfl rfl rfl (zV rfl rfl rfl rfl (zV rfl rfl rfl rfl (zV rfl rfl rfl rfl (zV rfl rfl rfl rfl ?_)))))
    refine uB (qZ rfl rfl) ?_
    refine uA rfl (qN (qL (zH rfl (zD (zK ?_)))))
    refine qAw (ι := SwG) ⟨d, j, tm0⟩ (by simp only; omega) ⟨rfl, rfl, rfl, rfl, rfl, rfl, rfl, rfl, trivial⟩ ?_
    exact uI
   obtain ⟨gz, oz, rfl, hqz⟩ := hq2 (hne2 (by omega))
   obtain ⟨z, hz⟩ : ∃ x, zs[i]? = some x := ⟨_, List.getElem?_eq_getElem (by omega)⟩
   have f0 := intC_at hz (((i : Nat) : Int).toNat) (by omega)
   refine kR rfl rfl (uM rfl (kR rfl rfl (uM rfl (kR rfl rfl (uB (uAi rfl rfl) ?_)))))
   refine kR rfl rfl ?_
   apply qC
   ·(apply zL rfl (hE.t rfl) rfl (by assumption); (focus ((repeat constructor); done)); (first | ((focus exact f0); (focus omega)) | ((focus exact f1); (focus omega)) | ((focus assumption); (focus omega))))
   ·rfl
   refine kR rfl rfl (uB (zBe rfl rfl (by omega)) ?_)
   refine kR rfl rfl (uB (y_eq rfl rfl) ?_)
   refine uB (zA rfl rfl) ?_
   refine uA rfl (qN (qL ?_))
   refine zG rfl (fun w2 => ?_) (fun w2 => ?_)
   ·refine zD (zK ?_)
    refine qAw (ι := SwG) ⟨d, j, tm0⟩ (by simp only; omega) ⟨rfl, rfl, rfl, rfl, rfl, rfl, rfl, rfl, trivial⟩ ?_
    exact uI
   refine qM (qK (uM rfl (uM rfl (uB (uAi rfl rfl) ?_))))
   apply qC
   ·(apply zL rfl (hE.t rfl) rfl (by assumption); (focus ((repeat constructor); done)); (first | ((focus exact f0); (focus omega)) | ((focus exact f1); (focus omega)) | ((focus assumption); (focus omega))))
   ·rfl
   refine uB (zBe rfl rfl (by omega)) ?_
   refine uB (y_eq rfl rfl) ?_
   refine uA rfl (qN (qL ?_))
   refine zG rfl (fun w3 => ?_) (fun w3 => ?_)
   ·refine qK ?_
    refine uM rfl (uX (qEs (k := i + 1) (j := j) (tm := tm) (tm0 := tm0) hE (by omega) (by omega)) rfl ?_)
    rintro _ _ ⟨rfl, rfl⟩
    simp only [uV, uW]
    refine uA rfl (qN (zK ?_))
    refine qAw (ι := SwG) ⟨d, j + 1, tm⟩ (by simp only; omega) ⟨rfl, rfl, rfl, rfl, rfl, rfl, rfl, rfl, trivial⟩ ?_
    exact uI
   refine qM (qK (uM rfl (uM rfl (uB (uAi rfl rfl) ?_))))
   apply qC
   ·(apply zL rfl (hE.t rfl) rfl (by assumption); (focus ((repeat constructor); done)); (first | ((focus exact f0); (focus omega)) | ((focus exact f1); (focus omega)) | ((focus assumption); (focus omega))))
   ·rfl
   refine uB (zBe rfl rfl (by omega)) ?_
   refine uB (y_eq rfl rfl) ?_
   refine uA rfl (qN (qL ?_))
   refine zG rfl (fun w4 => ?_) (fun w4 => ?_)
   ·refine qK ?_
    refine uM rfl (uX (qYe (k := i + 1) (j := j) (tm := tm) (tm0 := tm0) hE (by omega)) rfl ?_)
    rintro _ _ ⟨rfl, rfl⟩
    simp only [uV, uW]
    refine uA rfl (qN (zK ?_))
    refine qAw (ι := SwG) ⟨d, j + 1, tm⟩ (by simp only; omega) ⟨rfl, rfl, rfl, rfl, rfl, rfl, rfl, rfl, trivial⟩ ?_
    exact uI
   refine qM (qK (uM rfl (uX (qEs (k := i + 1) (j := j) (tm := tm) (tm0 := tm0) hE (by omega) (by omega)) rfl ?_)))
   rintro _ _ ⟨rfl, rfl⟩
   simp only [uV, uW]
   refine uA rfl (qN (qL (qM (qK (uM rfl ?_)))))
   refine qUk (ι := Unit) (p := dbP d fa tm tm (i + 1) (j + 1)) (ps := fun _ => [qRd fa tm (i + 1) (j + 1)]) uK (fun k x => ⟨(), qTc k x⟩) ?_
   rintro -
   simp only [uV, uW]
   refine uX (qEi (a := fa) (k := i + 1) (j := j + 1) (tm0 := tm) hE (by omega)) rfl ?_
   rintro _ _ ⟨d2, rfl, rfl⟩
   simp only [uV, uW]
   refine uM rfl (uB (qW rfl rfl) (uB (qW rfl rfl) (uA rfl (uA rfl (qN (qL (qM (qM (qK (uM rfl (uB (qAz rfl) ?_)))))))))))
   refine qN (qL (zF rfl (zD (qL (qK (uM rfl (uA rfl (qN (zK ?_)))))))))
   refine qAw (ι := SwG) ⟨d2, j + 1, tm⟩ (by simp only; omega) ⟨rfl, rfl, rfl, rfl, rfl, rfl, rfl, rfl, trivial⟩ ?_
   exact uI
  rintro ⟨d3, j3, tm3⟩ hj3
  simp only at hj3 ⊢
  refine qM (qK (uM rfl (uB (qAe rfl (hE.t rfl)) ?_)))
  refine qN (qL (zF rfl (zD (zK (qL (qK (uM rfl (uB (uAa rfl rfl) ?_))))))))
  refine uA rfl (qN ?_)
  refine zU (ι := StpG) (j := ⟨i + 1, d3, j3, tm, tm3⟩) ⟨by simp only; omega, hj3, htm'⟩ (by simp only; omega) ⟨rfl, rfl, rfl, rfl, rfl, rfl, congrArg some (zY (by simp only; omega)), trivial⟩ uI
 obtain rfl : i = l.length := by omega
 refine kK (qR (qR (zJ (qL (qM (qM (qK (uM rfl ?_))))))))
 refine uX (qEs (k := l.length) (j := j) (tm := tm) (tm0 := tm0) hE (by omega) (by omega)) rfl ?_
 rintro _ _ ⟨rfl, rfl⟩
 simp only [uV, uW]
 refine uB (qAe rfl (hE.t rfl)) ?_
 refine uM rfl (kR rfl rfl (uM rfl (kR rfl rfl (uX (qEs (k := l.length) (j := 0) (tm := tm) (tm0 := tm00) hE (by omega) (by omega)) rfl ?_))))
 rintro _ _ ⟨rfl, rfl⟩
 simp only [uV, uW]
 refine kR rfl rfl (uB (qAe rfl (hE.t rfl)) ?_)
 refine uB (zA rfl rfl) ?_
 refine qN (qL (zF rfl (zD (qL (qM (qK (uM rfl ?_)))))))
 refine qUk (ι := Unit) (p := dbP d fa tm tm l.length (j + 1)) (ps := fun _ => [qRd fa tm l.length (j + 1)]) uK (fun k x => ⟨(), qTc k x⟩) ?_
 rintro -
 simp only [uV, uW]
 refine uX (qEi (a := fa) (k := l.length) (j := j + 1) (tm0 := tm) hE (by omega)) rfl ?_
 rintro _ _ ⟨d2, rfl, rfl⟩
 simp only [uV, uW]
 refine uM rfl (uB (qW rfl rfl) (uB (qW rfl rfl) (uA rfl (uA rfl (qN (qL (qM (qK (uM rfl ?_)))))))))
 refine qUk (ι := Unit) (p := dbP e fb tm tm l.length 1) (ps := fun _ => [qRd fb tm l.length 1]) uK (fun k x => ⟨(), qTc k x⟩) ?_
 rintro -
 simp only [uV, uW]
 refine uX (qEi (a := fb) (k := l.length) (j := 1) (tm0 := tm) hE (by omega)) rfl ?_
 rintro _ _ ⟨e2, rfl, rfl⟩
 simp only [uV, uW]
 refine uM rfl (uB (qW rfl rfl) (uB (qW rfl rfl) (uA rfl (uA rfl (qN (qL (qM (qM (qK (uM rfl (uB (qAz rfl) ?_)))))))))))
 refine uM rfl (kR rfl rfl (uM rfl (kR rfl rfl (uB (qAz rfl) ?_))))
 refine uB (zA rfl rfl) ?_
 refine qN (qL (zF rfl (zD (qL (qM (qK (uM rfl ?_)))))))
 refine uX (qHb (d := d2) (a := fa) (k := l.length) (j := j + 1) (tm := tm) (tm0 := tm) hE (by omega) htm) rfl ?_
 rintro _ _ ⟨A, qA, cA, rfl, ⟨hA, hAk⟩, rfl⟩
 simp only [uV, uW]
 refine uM rfl (uB (qW rfl rfl) (uB (qW rfl rfl) (uA rfl (uA rfl (qN (qL (qM (qK (uM rfl ?_)))))))))
 refine uX (qHb (d := e2) (a := fb) (k := l.length) (j := 1) (tm := tm) (tm0 := tm) hE (by omega) htm) rfl ?_
 rintro _ _ ⟨B, qB, cB, rfl, ⟨hB, -⟩, rfl⟩
 obtain rfl := hA.fn hB
 simp only [uV, uW]
 refine uM rfl (uB (qW rfl rfl) (uB (qW rfl rfl) (uA rfl (uA rfl (qN (qL (qM (qK (uM rfl (uM rfl (kR rfl rfl (uM rfl ?_))))))))))))
 refine uB (qZ rfl rfl) ?_
 refine uM rfl (kR rfl rfl (uM rfl (kR rfl rfl (uM rfl (kR rfl rfl (uX (qUi (A := A) (B := A) hE (by omega)) rfl ?_))))))
 rintro _ _ ⟨rfl, rfl⟩
 simp only [uV, uW]
 refine uB (qZ rfl rfl) ?_
 refine uA rfl (qN (qL (kD ?_)))
 exact uZ rfl (.tmp rfl .nil) ⟨congrArg Value.bool (by simp), rfl⟩
theorem qLd (hE : Seat E) {l : List (List UInt8 × List UInt8)} {zs : List Int} {a b : Option Addr} {ca cb : Nat} (hq : Rdb E.w0 a (ssC l) old) (hn : l.length ≤ maxLen) (hq2 : Rdb E.w0 b (intC zs) old) (hn2 : zs.length ≤ maxLen) :
  Ct E 4 [.slice a l.length ca, .slice b zs.length cb] [] (fun v Q => v = .bool true ∧ Q = []) := ct_unold (qKe hE hq hn hq2 hn2)
end Go.Proofs.YtddfnkijolfhbaaGreat
