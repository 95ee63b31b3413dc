import Derived.Test.YtddfnkijolfhbaaGreatQ9F
import Derived.Carry
import Derived.ChangeArms
import Derived.ChangeSame
import Derived.ChangeSlices
import Derived.Deep.SlicePairs
import Derived.JoinedOf
import Derived.ProofKit
import Derived.RowKit
import Derived.SizedLaws
import Derived.SliceStrings
import Derived.Test.YtddfnkijolfhbaaGreatRows
set_option linter.all false
set_option maxHeartbeats 1000000
namespace Go.Proofs.YtddfnkijolfhbaaGreat
section
open Go Go.ChangeShapes Go.WideShapes Go.ChangeAt Go.WideMaps Go.WideElems Go.RowKit Go.ChangeMaps Sl
theorem own : ownKnob Tryz.prog.godebug = none := by kernel_rfl
theorem laidOut : laidOutB Tryz.prog = true := by kernel_rfl
theorem boolT : Tryz.prog.underlying 4 = some .bool := by kernel_rfl
theorem qPr {H : Type} {enc : TypeId × Value → H} {P : Program} (hlo : laidOutB P = true) {W W' : World} (hb : Below W.heap.size W W') : ∀ (ts : List TypeId) (vs : List Value) (ds : List (DataW H)) (ps : List MemPlace),
  (ts.all fun t => P.readableRec t && decide (t < P.types.size)) = true → (∀ x ∈ ps, x.block < W.heap.size) → DataW.TrodAll enc P W 0 (fun _ => true) true ts vs ds ps → DataW.TrodAll enc P W' 0 (fun b => decide (b < W.heap.size)) true ts vs ds ps := by
 intro ts
 induction ts with
 | nil =>
  intro vs ds ps _ _ h
  cases vs <;> cases ds <;> first | exact h | exact h.elim
 | cons t ts ih =>
  intro vs ds ps ht hl h
  cases vs with
  | nil => cases ds <;> exact h.elim
  | cons v vs =>
   cases ds with
   | nil => exact h.elim
   | cons d ds =>
    obtain ⟨p, q, h1, h2, rfl⟩ := h
    simp only [List.all_cons, Bool.and_eq_true, decide_eq_true_eq] at ht
    exact ⟨p, q, Below.trod hlo ht.1.1 ht.1.2 h1 hb (fun x hx => hl x (List.mem_append_left _ hx)), ih vs ds q ht.2 (fun x hx => hl x (List.mem_append_right _ hx)) h2, rfl⟩
theorem law_post {H : Type} {enc : TypeId × Value → H} {f : Func} {s : ChangeSpec} {W W' : World} {args : Array Value} {ds : List (DataW H)} {before : List MemPlace} (hv : s.vars = [])
  (hW : DataW.Whole enc Tryz.prog f.params.toList s.vars false W args.toList ds [] before) (hb : Below W.heap.size W W') (hts : (f.params.toList.all fun t => Tryz.prog.readableRec t && decide (t < Tryz.prog.types.size)) = true)
  (hr : f.resultTypes = #[4]) (hfn : s.fn H (ds ++ []) = { results := [.lit (.bool true)], args := ds }) : s.post enc Tryz.prog f false true false false W args (.bool true) W' := by
 have hW' := hW
 obtain ⟨p, q, hA, hV, rfl, hfz, hnd⟩ := hW
 have hlt : ∀ x ∈ p, x.block < W.heap.size := fun x hx => hW'.lt x (List.mem_append_left _ hx)
 refine ⟨ds, [], p ++ q, [], p, [], hW', ?_, ?_, ?_, hb.frame _, fun h => by cases h⟩
 ·rw [hfn, hr]; exact trodAll_mk1 (shut_bool boolT true)
 ·rw [hfn]; exact qPr laidOut hb _ _ _ _ hts hlt hA
 rw [hfn, hv]; rfl
theorem env_of (W : World) : ∃ E : Env, Seat E ∧ E.w0 = W := ⟨⟨Tryz.prog, W, tabT.find, tab_ok, by kernel_rfl⟩, ⟨rfl, rfl⟩, rfl⟩
theorem calls_at {W : World} {f : FuncId} {args : List Value} (h : ∀ E : Env, Seat E → E.w0 = W → Ct E f args [] (fun v Q => v = .bool true ∧ Q = [])) : Calls Tryz.prog f ⟨args⟩ W (fun e W' => e = .returned (.bool true) ∧ Below W.heap.size W W') := by
 obtain ⟨E, hE, rfl⟩ := env_of W
 have hs : Sat E.w0 E.w0 ([] ++ [fun _ => True]) := ⟨rfl, rfl, rfl, Nat.le_refl _, fun _ _ => rfl, ⟨qDs E.w0 E.w0, fun _ => none, fun _ => .inr rfl, by funext b; simp [join], trivial, trivial⟩⟩
 have := h E hE rfl (fun _ => True) E.w0 hs
 rw [hE.P] at this
 exact this.mono fun e W' ⟨v, Qs, h1, ⟨h2, _⟩, h3⟩ => ⟨by rw [h1, h2], h3.os, h3.tape, h3.output, h3.size, h3.old⟩
theorem ct_unold {E : Env} {f : FuncId} {args : List Value} {u : Value} (h : Ct E f args [old] (fun v Q => v = u ∧ Q = [old])) : Ct E f args [] (fun v Q => v = u ∧ Q = []) := fun R w s => (h R w (s.imp fun _ x => ent_old _ x)).mono fun e w' ⟨v, Qs, h1, ⟨h2, h3⟩, h4⟩ => ⟨v, [], h1, ⟨h2, rfl⟩, by
 subst h3
 exact h4.imp (by show ∀ k, qAc [old, R] k → qAc [R] k; (apply ent; (repeat constructor); done))⟩
theorem zAe {W : World} {a : Addr} {v : Value} (h : W.cell? a = some v) : a = ⟨a.block, a.off, none⟩ := by
 obtain ⟨b, o, s⟩ := a
 cases s with
 | none => rfl
 | some x =>
  unfold World.cell? at h
  split at h
  ·simp at h
  cases h
theorem rdb_of {W : World} {a : Option Addr} {vs : List Value} (h : ∀ i v, vs[i]? = some v → ∃ a', a = some a' ∧ W.cell? (a'.add i) = some v) : Rdb W a vs old := fun hne => by
 cases vs with
 | nil => exact absurd rfl hne
 | cons v vs =>
  obtain ⟨a', rfl, h0⟩ := h 0 v rfl
  rw [show a'.add 0 = a' by simp [Addr.add]] at h0
  have e := zAe h0
  refine ⟨a'.block, a'.off, by rw [← e], rd_old fun i u hu => ?_⟩
  obtain ⟨a2, h1, h2⟩ := h i u hu
  cases h1
  rw [e, Sl.addr_add] at h2
  exact h2
theorem i64_wf {z : Int} (h : (Lit.int .i64 z).wf = true) : -9223372036854775808 ≤ z ∧ z ≤ 9223372036854775807 := by
 simp only [Lit.wf, Bool.and_eq_true, decide_eq_true_eq] at h
 have h1 : (IntKind.i64.min : Int) = -9223372036854775808 := by rfl
 have h2 : (IntKind.i64.max : Int) = 9223372036854775807 := by rfl
 omega
end
section
open Go Go.ChangeShapes Go.WideShapes Go.ChangeAt Go.WideMaps Go.WideElems Go.RowKit Go.ChangeMaps Sl Eg
instance : Inhabited (List UInt8 × List UInt8) := ⟨([], [])⟩
set_option maxRecDepth 100000 in
theorem qZm {H : Type} {enc : TypeId × Value → H} {w : World} {base b0 : Nat} {r : Reach} {held : Bool} {v : Value} {d : DataW H} {ps : List MemPlace}
  (hv : Value.okWide Tryz.prog w r b0 48 v) (hd : DataW.Trod enc Tryz.prog w base (fun _ => true) held 48 v d ps) :
  ∃ (A : Option Addr) (l : List (List UInt8 × List UInt8)) (C : Nat), v = .slice A l.length C ∧ Rdb w A (ssC l) old ∧ l.length ≤ maxLen := by
 have hu : Tryz.prog.underlying 48 = some (.slice 51) := by kernel_rfl
 obtain ⟨a, len, cap, rfl⟩ := okWide_slice hu hv
 obtain ⟨fuel, hf⟩ := hd
 simp only [Value.cells] at hf
 rcases Go.Deep.open_slice_pairs hu Tryz.underlying51 (by kernel_rfl) rfl rfl (by kernel_rfl) (by kernel_rfl) hf with ⟨h1, h2⟩ | ⟨a', len', cap', m, n, V0, V1, D0, D1, P0, P1, h1, hb, hl, hm, hmm, hx, hcell⟩
 ·simp at h1
  obtain ⟨rfl, rfl, rfl⟩ := h1
  exact ⟨none, [], 0, rfl, fun h => absurd rfl h, Nat.zero_le _⟩
 simp at h1
 obtain ⟨rfl, rfl, rfl⟩ := h1
 have hml : len ≤ m := by rw [hmm]; split <;> omega
 obtain ⟨M, hM⟩ := Go.Deep.choose_lt (n := len) (p := fun i (x : List UInt8 × List UInt8) => V0 i = .string ⟨⟨x.1⟩⟩ ∧ V1 i = .string ⟨⟨x.2⟩⟩) (fun i hi => by
  obtain ⟨c0, c1, t0, t1⟩ := hcell i (by omega)
  obtain ⟨⟨⟨nm⟩⟩, e0, _, _⟩ := DataW.trod_string (by kernel_rfl) t0
  obtain ⟨⟨⟨tx⟩⟩, e1, _, _⟩ := DataW.trod_string (by kernel_rfl) t1
  simp at e0 e1
  exact ⟨(nm, tx), e0, e1⟩)
 have hlen : ((List.range len).map M).length = len := by simp
 have hget : ∀ i, i < len → ((List.range len).map M)[i]? = some (M i) := fun i hi => by simp [hi]
 refine ⟨some a', (List.range len).map M, cap, by rw [hlen], rdb_of fun i v hv => ⟨a', rfl, ?_⟩, by rw [hlen]; omega⟩
 have hi : i < len * 2 := by
  have := (List.getElem?_eq_some_iff.1 hv).1
  rwa [qTt, hlen] at this
 have hk : i / 2 < len := by omega
 obtain ⟨k0, k1⟩ := qRy (hget _ hk) (i / 2 * 2) rfl
 obtain ⟨c0, c1, _, _⟩ := hcell (i / 2) (by omega)
 obtain ⟨m0, m1⟩ := hM _ hk
 rcases Nat.mod_two_eq_zero_or_one i with hp | hp
 ·rw [show i / 2 * 2 = i by omega] at c0 k0
  rw [k0] at hv
  rw [c0, m0]
  exact hv
 rw [show i / 2 * 2 + 1 = i by omega] at c1 k1
 rw [k1] at hv
 rw [c1, m1]
 exact hv
end
end Go.Proofs.YtddfnkijolfhbaaGreat
namespace Sl
open Go Go.RowKit
variable {E : Env} {n : Nat} {L : Fr} {S : List HP} {ty : TypeId} {pos : String} {af : Array Edge} {d : Option Nat} {gd : Option (Nat × Bool)}
end Sl
namespace Go.Proofs.YtddfnkijolfhbaaGreat
open Go Go.RowKit Sl Eg
set_option maxRecDepth 10000
variable {E : Env}
theorem qQt (hE : Seat E) {n : List UInt8} : Ct E 15 [.string ⟨⟨n⟩⟩] [] (fun v Q => v = .bool (decide (1 ≤ n.length ∧ n.length ≤ 32)) ∧ Q = []) := by
 have hs : (⟨⟨n⟩⟩ : ByteArray).size = n.length := rfl
 refine zO (hE.fn Tryz.func15) rfl rfl rfl (fun R => ?_)
 simp only [qAd, uV, uW]
 refine qK (qI (uA rfl (qL (qJ (qK (qI (uM rfl (uB (qBt rfl (hE.t rfl)) ?_))))))))
 refine uB (y_gt rfl rfl) ?_
 refine uM rfl ?_
 refine qAl 6 rfl (fun c1 => ?_) (fun c1 => ?_)
 ·refine kP rfl rfl ?_
  refine uM rfl (kP rfl rfl (uB (qBt rfl (hE.t rfl)) ?_))
  refine kP rfl rfl (uB (y_le rfl rfl) ?_)
  refine uB (qX rfl rfl) ?_
  refine uA rfl (qL (qJ (zZ ?_)))
  apply kC
  ·rfl
  ·(apply Rs.tmp rfl; exact Rs.nil)
  ·refine ⟨congrArg Value.bool ?_, rfl⟩
   rw [Bool.eq_iff_iff]
   simp only [decide_eq_true_eq]
   omega
  exact uI
 refine zT rfl rfl rfl rfl (zT rfl rfl rfl rfl (zT rfl rfl rfl rfl ?_))
 refine uB (qY rfl rfl) ?_
 refine uA rfl (qL (qJ (zZ ?_)))
 apply kC
 ·rfl
 ·(apply Rs.tmp rfl; exact Rs.nil)
 ·refine ⟨congrArg Value.bool ?_, rfl⟩
  rw [Bool.eq_iff_iff]
  simp only [decide_eq_true_eq, Bool.false_eq_true, false_iff]
  omega
 exact uI
theorem qVt (hE : Seat E) {n : List UInt8} (h : 1 ≤ n.length ∧ n.length ≤ 32) : Ct E 15 [.string ⟨⟨n⟩⟩] [] (fun v Q => v = .bool true ∧ Q = []) :=
 (qQt hE).mono fun v Q ⟨h1, h2⟩ => ⟨by rw [h1, decide_eq_true h], h2⟩
theorem qVs (hE : Seat E) {n : List UInt8} (h : ¬ (1 ≤ n.length ∧ n.length ≤ 32)) : Ct E 15 [.string ⟨⟨n⟩⟩] [] (fun v Q => v = .bool false ∧ Q = []) :=
 (qQt hE).mono fun v Q ⟨h1, h2⟩ => ⟨by rw [h1, decide_eq_false h], h2⟩
end Go.Proofs.YtddfnkijolfhbaaGreat
namespace Sl
open Go Go.RowKit
variable {E : Env} {n : Nat} {L : Fr} {S : List HP} {ty : TypeId} {pos : String} {af : Array Edge} {d : Option Nat} {gd : Option (Nat × Bool)}
end Sl
namespace Go.Proofs.YtddfnkijolfhbaaGreat
open Go Go.RowKit Sl Eg
set_option maxRecDepth 10000
section
variable {E : Env}
theorem updT_le {tm : List UInt8 → Option (List UInt8)} {m : Nat} (h : ∀ x t, tm x = some t → t.length ≤ m) {n t : List UInt8} (ht : t.length ≤ m) : ∀ x u, updT tm n t x = some u → u.length ≤ m := fun x u hu => by
 unfold updT at hu
 split at hu
 ·cases hu
  exact ht
 exact h x u hu
end
section
variable {E : Env} {Es : List Ent} {s most : Nat}
structure RcM (L : List Rl) (X : List Nat) (i : Nat) (S : List Nat) : Prop where
 ib : i ≤ S.length
 nd : S.Nodup
 rch : ∀ x ∈ S, ∃ a ∈ X, Rea L a x
 rt : ∀ a ∈ X, a = 0 ∨ a ∈ S
 done : ∀ (t x : Nat) (r : Rl), t < i → S[t]? = some x → L[x - 1]? = some r → ∀ k ∈ kids r, k ∈ S
theorem RcM.nil (L : List Rl) : RcM L [] 0 [] := ⟨Nat.zero_le _, .nil, fun x h => (by cases h), fun x h => (by cases h), fun t x r h => by omega⟩
variable {L : List Rl} {X : List Nat} {i : Nat} {S : List Nat}
theorem RcM.rg (h : RcM L X i S) (x : Nat) (hx : x ∈ S) : 1 ≤ x ∧ x ≤ L.length := by
 obtain ⟨a, _, hr⟩ := h.rch x hx
 exact hr.le
theorem RcM.len (h : RcM L X i S) : S.length ≤ L.length := AccOk.len ⟨h.nd, fun y hy => h.rg y hy⟩
theorem RcM.root {a : Nat} (h : RcM L X 0 S) (ha : a ≤ L.length) : RcM L (X ++ [a]) 0 (if a = 0 ∨ a ∈ S then S else S ++ [a]) := by
 by_cases hin : a = 0 ∨ a ∈ S
 ·rw [if_pos hin]
  refine ⟨Nat.zero_le _, h.nd, fun x hx => ?_, fun b hb => ?_, fun t x r h => by omega⟩
  ·obtain ⟨b, hb, hr⟩ := h.rch x hx
   exact ⟨b, List.mem_append_left _ hb, hr⟩
  rcases List.mem_append.1 hb with hb | hb
  ·exact h.rt b hb
  rw [List.mem_singleton.1 hb]
  exact hin
 rw [if_neg hin]
 obtain ⟨n, rfl⟩ : ∃ n, a = n + 1 := ⟨a - 1, by omega⟩
 refine ⟨Nat.zero_le _, List.nodup_append.2 ⟨h.nd, by simp, fun u hu v hv e => hin (.inr (by rw [List.mem_singleton.1 hv] at e; exact e ▸ hu))⟩, fun x hx => ?_, fun b hb => ?_, fun t x r h => by omega⟩
 ·rcases List.mem_append.1 hx with hx | hx
  ·obtain ⟨b, hb, hr⟩ := h.rch x hx
   exact ⟨b, List.mem_append_left _ hb, hr⟩
  rw [List.mem_singleton.1 hx]
  exact ⟨n + 1, List.mem_append_right _ (by simp), .self (by omega)⟩
 rcases List.mem_append.1 hb with hb | hb
 ·rcases h.rt b hb with e | e
  ·exact .inl e
  exact .inr (List.mem_append_left _ e)
 exact .inr (List.mem_append_right _ hb)
theorem RcM.more (hw : Wf L) (h : RcM L X i S) {x z : Nat} {r : Rl} (hx : x ∈ S) (hr : L[x - 1]? = some r) (hz : z ∈ kids r) (hn : z ∉ S) : RcM L X i (S ++ [z]) := by
 have hxb := h.rg x hx
 refine ⟨by have := h.ib; rw [List.length_append]; omega, List.nodup_append.2 ⟨h.nd, by simp, fun a ha b hb => by rw [List.mem_singleton.1 hb]; exact fun e => hn (e ▸ ha)⟩, fun y hy => ?_, fun a ha => ?_, fun t y q ht hy hq k hk => ?_⟩
 ·rcases List.mem_append.1 hy with hy | hy
  ·exact h.rch y hy
  rw [List.mem_singleton.1 hy]
  obtain ⟨n, rfl⟩ : ∃ n, x = n + 1 := ⟨x - 1, by omega⟩
  obtain ⟨b, hb, hre⟩ := h.rch _ hx
  exact ⟨b, hb, hre.step hr hz hw⟩
 ·rcases h.rt a ha with e | e
  ·exact .inl e
  exact .inr (List.mem_append_left _ e)
 rw [List.getElem?_append_left (by have := h.ib; omega)] at hy
 exact List.mem_append_left _ (h.done t y q ht hy hq k hk)
theorem RcM.next (h : RcM L X i S) {x : Nat} {r : Rl} (hx : S[i]? = some x) (hr : L[x - 1]? = some r) (hk : ∀ k ∈ kids r, k ∈ S) : RcM L X (i + 1) S :=
 ⟨(List.getElem?_eq_some_iff.1 hx).1, h.nd, h.rch, h.rt, fun t y q ht hy hq k hkk => by
   rcases Nat.lt_or_ge t i with hl | hl
   ·exact h.done t y q hl hy hq k hkk
   obtain rfl : t = i := by omega
   rw [hx] at hy
   cases hy
   rw [hr] at hq
   cases hq
   exact hk k hkk⟩
theorem RcM.all (h : RcM L X S.length S) (x : Nat) : x ∈ S ↔ ∃ a ∈ X, Rea L a x := by
 refine ⟨h.rch x, fun ⟨a, ha, hr⟩ => ?_⟩
 have hc : Closed L S := fun n r hn hr k hk => by
  obtain ⟨t, ht⟩ := List.getElem?_of_mem hn
  exact h.done t (n + 1) r (List.getElem?_eq_some_iff.1 ht).1 ht hr k hk
 rcases h.rt a ha with rfl | e
 ·cases hr
 exact hr.inside hc e
theorem rea_gram {L : List Rl} {V : List Nat} (h : Lis L V) {n x : Nat} (hr : Rea L n x) : n ∈ V → Rea (gram L V) (numb V n) (numb V x) := by
 induction hr with
 | @self a ha =>
  intro hm
  have h1 := qFm hm
  have h2 := qFz V (a + 1)
  obtain ⟨m, hm2⟩ : ∃ m, numb V (a + 1) = m + 1 := ⟨numb V (a + 1) - 1, by omega⟩
  rw [hm2]
  exact .self (by rw [qCj]; omega)
 | @kid n k x r hg hk _ ih =>
  intro hm
  obtain ⟨n2, q, e, hq, hkq⟩ := h.mem hm
  obtain rfl : n = n2 := by omega
  rw [hg] at hq
  cases hq
  have h1 := qFm hm
  have h2 := qFl hm
  have hga := qEq h2 hg
  obtain ⟨m, hm2⟩ : ∃ m, numb V (n + 1) = m + 1 := ⟨numb V (n + 1) - 1, by omega⟩
  rw [hm2] at hga ⊢
  rw [Nat.add_sub_cancel] at hga
  refine .kid hga (k := numb V k) ?_ (ih (hkq k hk))
  cases r with
  | letter b => simp [kids] at hk
  | pair l r =>
   simp only [kids, qBu, List.mem_cons, List.not_mem_nil, or_false] at hk ⊢
   rcases hk with rfl | rfl
   ·exact .inl rfl
   exact .inr rfl
  | power y t =>
   simp only [kids, qBu, List.mem_cons, List.not_mem_nil, or_false] at hk ⊢
   rw [hk]
theorem qYl (hE : Seat E) {b6 b7 bm c : Nat} {p : Option Addr} {S : List Nat} :
  Ct E 57 [.int .i64 ((0 : Nat) : Int), uPt b7, uPt b6] [cells b7 [.map (some bm)] 128, cells b6 [.slice p S.length c] 69, mapF bm .i64 (qDv (0 :: S)), sl p c 40 1 S.length (idC S)] (fun v Q => v = .tuple #[] ∧ Q = [cells b7 [.map (some bm)] 128, cells b6 [.slice p S.length c] 69, mapF bm .i64 (qDv (0 :: S)), sl p c 40 1 S.length (idC S)]) := by
 have hm1 : E.P.underlying 128 = some (.map 40 4) := by rw [hE.P]; kernel_rfl
 have hm2 : E.P.underlying 40 = some (.int .i64) := by rw [hE.P]; kernel_rfl
 have hm3 : ∀ w, (zeroValue 4).run E.P w = .ok (.bool false) w := fun w => by rw [hE.P]; kernel_rfl
 refine zO (hE.fn Tryz.func57) rfl rfl rfl (fun R => ?_)
 simp only [qAd, uV, uW]
 refine qK (qI (uL ?_))
 refine uM rfl (uB (qOg hm1 hm2 hm3 rfl rfl uK (qPj List.mem_cons_self)) ?_)
 refine uB (qBf rfl) ?_
 refine qL (qJ (zC rfl (zB ?_)))
 exact uZe rfl .nil ⟨rfl, rfl⟩
theorem qYk (hE : Seat E) {b6 b7 bm z c : Nat} {p : Option Addr} {S : List Nat} (hS : S.length ≤ 1048576) :
  Ct E 57 [.int .i64 (z : Nat), uPt b7, uPt b6] [cells b7 [.map (some bm)] 128, cells b6 [.slice p S.length c] 69, mapF bm .i64 (qDv (0 :: S)), sl p c 40 1 S.length (idC S)]
   (fun v Q => v = .tuple #[] ∧ ∃ p' c', Q = [cells b7 [.map (some bm)] 128, cells b6 [.slice p' (if z = 0 ∨ z ∈ S then S else S ++ [z]).length c'] 69, mapF bm .i64 (qDv (0 :: (if z = 0 ∨ z ∈ S then S else S ++ [z]))), sl p' c' 40 1 (if z = 0 ∨ z ∈ S then S else S ++ [z]).length (idC (if z = 0 ∨ z ∈ S then S else S ++ [z]))]) := by
 rcases Nat.eq_zero_or_pos z with rfl | hz
 ·rw [if_pos (.inl rfl)]
  exact (qYl hE).mono fun v Q ⟨h1, h2⟩ => ⟨h1, p, c, h2⟩
 have e : (if z = 0 ∨ z ∈ S then S else S ++ [z]) = if z ∈ S then S else S ++ [z] := by
  simp only [show ¬ z = 0 by omega, false_or]
 rw [e]
 exact qUe hE hz hS
theorem qXo (hE : Seat E) {X : List Nat} {q : Option Addr} {cq : Nat} (hX : ∀ a ∈ X, a ≤ Es.length) (hn : Es.length < 65536) (hXl : X.length ≤ 1000000) :
  Ct E 33 [uPt s, .slice q X.length cq] [zR s most Es, sl q cq 40 1 X.length (idC X)]
   (fun v Q => ∃ p c V, v = .tuple #[.slice p V.length c, .nilIface] ∧ (V.Nodup ∧ ∀ x, x ∈ V ↔ ∃ a ∈ X, Rea (rls Es) a x) ∧ Q = [zR s most Es, sl q cq 40 1 X.length (idC X), sl p c 40 1 V.length (idC V)]) := by
 refine qBo (p := zR s most Es) uK (fun _ h => qBs h) (fun hsay => ?_)
 refine qBo (p := sl q cq 40 1 X.length (idC X)) uK (fun _ h => fun hpos => qAw h hpos) (fun hqf => ?_)
 have hw := hsay.1
 have hLl := zQ Es
 have hgo : goFn E.P 57 = true := hE.f (by kernel_rfl)
 refine zO (hE.fn Tryz.func33) rfl rfl rfl (fun R => ?_)
 simp only [qAd, uV, uW]
 refine qK (qI (uA rfl (uA rfl (qL (qJ (qK (qK (qI (uM rfl (uB (qBl rfl (hE.t rfl)) ?_))))))))))
 refine qL (qJ (zC rfl (zB (qJ (qK (qI (uU (kF (hE.t rfl) (fun b6 => ?_)))))))))
 refine qL (qJ (qK (qI (uU ?_))))
 refine qCm .i64 (fun b19 => ?_)
 refine uU ?_
 apply qRl (kt := 40) (et := 4) (by rw [hE.P]; kernel_rfl) (by rw [hE.P]; kernel_rfl) rfl rfl rfl
 ·exact uK
 refine uM rfl (uU (kF (hE.t rfl) (fun b7 => ?_)))
 refine uU (uS ?_)
 refine qL (qJ (qK (qI (uB (qJw rfl) ?_))))
 refine uA rfl (qL (qJ (qK (qK (qI (uM rfl (uB (uBl rfl) ?_)))))))
 refine uM rfl (qL (qJ (zK ?_)))
 rw [seen0]
 refine qAr (qCi (t := 40) (sz := 1)) ?_
 refine qAh (fun x : RhG => [(0, uPt s), (6, uPt b6), (8, .func (.func 57) #[] ⟨[uPt b7, uPt b6]⟩), (22, .slice q X.length cq), (23, .int .i64 (X.length : Nat)), (24, .int .i64 (x.i : Nat))]) (fun x => [zR s most Es, cells b7 [.map (some b19)] 128, cells b6 [.slice x.p x.S.length x.c] 69, mapF b19 .i64 (qDv (0 :: x.S)), sl x.p x.c 40 1 x.S.length (idC x.S), sl q cq 40 1 X.length (idC X), R]) (fun x => X.length - x.i) (fun x => x.i ≤ X.length ∧ RcM (rls Es) (X.take x.i) 0 x.S) ⟨0, 0, [], none, 0⟩ ⟨Nat.zero_le _, RcM.nil _⟩ ⟨rfl, rfl, rfl, rfl, rfl, rfl, trivial⟩ uI ?_
 rintro ⟨i, _, S, p, c⟩ ⟨hi, hI⟩
 simp only at hi hI ⊢
 have hSl := hI.len
 refine qK (qI (uB (y_lt rfl rfl) ?_))
 refine qL (qJ (qK ?_))
 refine zD rfl (fun e1 => ?_) (fun e1 => ?_)
 ·have hil : i < X.length := by omega
  obtain ⟨gq, rfl⟩ := hqf (by omega)
  obtain ⟨a, ha⟩ : ∃ a, X[i]? = some a := ⟨_, List.getElem?_eq_getElem hil⟩
  have haE := hX a (List.mem_of_getElem? ha)
  have f1 := qCd ha (((i : Nat) : Int).toNat) (by omega)
  refine zB (qJ (qK (zK (qK (qI (uB (uAj rfl rfl) ?_))))))
  refine uL ?_
  refine uA rfl (qL (qJ (qK (qK (qI (uM rfl (uM rfl (uX (qXt (x := a) hE haE (by omega)) rfl ?_))))))))
  rintro _ _ ⟨rfl, rfl⟩
  simp only [uV, uW]
  refine uB (qBf rfl) ?_
  refine qL (qJ (zC rfl (zB (qJ (qI (uM rfl (uM rfl (uU ?_))))))))
  apply qOz (hx := rfl) (ha := rfl) (hf := hgo)
  ·exact qYk (b6 := b6) (b7 := b7) (bm := b19) (z := a) (p := p) (c := c) (S := S) hE (by omega)
  ·exact uK
  rintro _ _ ⟨rfl, p1, c1, rfl⟩
  simp only [uV, uW]
  refine qL (zI (qJ (qI (uB (uAa rfl rfl) ?_))))
  refine uM rfl (qL ?_)
  refine zS (ι := RhG) (j := ⟨i + 1, 0, if a = 0 ∨ a ∈ S then S else S ++ [a], p1, c1⟩) ⟨by simp only; omega, ?_⟩ (by simp only; omega) ⟨rfl, rfl, rfl, rfl, rfl, congrArg some (zW (by simp only; omega)), trivial⟩ uI
  simp only
  rw [List.take_add_one, ha]
  exact hI.root (by omega)
 obtain rfl : i = X.length := by omega
 rw [List.take_length] at hI
 clear hSl hi
 refine kI (qP (qP (zH (qJ (qK (qK (qI (uA rfl (qL (qJ (zK ?_)))))))))))
 refine qAh (fun x : RhG => [(0, uPt s), (6, uPt b6), (8, .func (.func 57) #[] ⟨[uPt b7, uPt b6]⟩), (11, .int .i64 (x.i : Nat))]) (fun x => [zR s most Es, cells b7 [.map (some b19)] 128, cells b6 [.slice x.p x.S.length x.c] 69, mapF b19 .i64 (qDv (0 :: x.S)), sl x.p x.c 40 1 x.S.length (idC x.S), sl q cq 40 1 X.length (idC X), R]) (fun x => Es.length - x.i) (fun x => RcM (rls Es) X x.i x.S) ⟨0, 0, S, p, c⟩ hI ⟨rfl, rfl, rfl, rfl, trivial⟩ uI ?_
 clear hI
 rintro ⟨i, _, S, p, c⟩ hI
 simp only at hI ⊢
 have hSl := hI.len
 have hib := hI.ib
 refine qK (qK (qI (uM rfl (uL ?_))))
 refine uB (uBl rfl) ?_
 refine uB (y_lt rfl rfl) ?_
 refine qL (qJ ?_)
 refine zD rfl (fun e2 => ?_) (fun e2 => ?_)
 ·have hil : i < S.length := by omega
  obtain ⟨x, hx⟩ : ∃ x, S[i]? = some x := ⟨_, List.getElem?_eq_getElem hil⟩
  have hxb := hI.rg x (List.mem_of_getElem? hx)
  obtain ⟨n, rfl⟩ : ∃ n, x = n + 1 := ⟨x - 1, by omega⟩
  obtain ⟨y, hy⟩ : ∃ y, Es[n]? = some y := ⟨_, List.getElem?_eq_getElem (by omega)⟩
  have hyr : (rls Es)[n + 1 - 1]? = some y.r := by rw [Nat.add_sub_cancel]; exact qZx hy
  have hkn : (kids y.r).length ≤ 2 := by cases y.r <;> simp [kids]
  refine qEj (p := sl p c 40 1 S.length (idC S)) uK (fun _ h => qAw h (by omega)) ?_
  rintro ⟨gp, rfl⟩
  have f1 := qCd hx (((i : Nat) : Int).toNat) (by omega)
  have f2 := qCd hx (0 + ((i : Nat) : Int).toNat) (by omega)
  refine zB (qJ (qK (zK (qK (qI (uM rfl (uL ?_)))))))
  refine uM rfl (uB (uAj rfl rfl) ?_)
  refine uL ?_
  refine uX (qLp hE hy) rfl ?_
  rintro _ _ ⟨rfl, rfl⟩
  simp only [uV, uW]
  refine uM rfl (uB (qU rfl rfl) (uB (qU rfl rfl) (uU (kF (hE.t rfl) (fun b12 => ?_)))))
  refine uU (uS ?_)
  refine uA rfl (qL (qJ (qK (qK (qI (uM rfl (uB (qAe rfl (hE.t rfl)) ?_)))))))
  refine qL (qJ (zC rfl (zB (qJ (qK (qI (uB (uG) ?_)))))))
  refine uX (qOs hE y.r) rfl ?_
  rintro _ _ ⟨pk, ck, rfl, rfl⟩
  simp only [uV, uW]
  refine uB (uBl rfl) ?_
  refine uM rfl (qL (qJ (zK ?_)))
  refine qEj (p := sl pk ck 40 1 (kids y.r).length (idC (kids y.r))) uK (fun _ h => fun hpos => qAw h hpos) ?_
  intro hpk
  clear f1 f2 hil hSl hib e2
  refine qAh (fun x : RhG => [(0, uPt s), (6, uPt b6), (8, .func (.func 57) #[] ⟨[uPt b7, uPt b6]⟩), (11, .int .i64 (i : Nat)), (56, .slice pk (kids y.r).length ck), (57, .int .i64 ((kids y.r).length : Nat)), (58, .int .i64 (x.j : Nat))]) (fun x => [zR s most Es, cells b7 [.map (some b19)] 128, cells b6 [.slice x.p x.S.length x.c] 69, mapF b19 .i64 (qDv (0 :: x.S)), sl x.p x.c 40 1 x.S.length (idC x.S), sl pk ck 40 1 (kids y.r).length (idC (kids y.r)), sl q cq 40 1 X.length (idC X), R]) (fun x => (kids y.r).length - x.j)
   (fun x => x.j ≤ (kids y.r).length ∧ RcM (rls Es) X i x.S ∧ x.S[i]? = some (n + 1) ∧ ∀ t k, t < x.j → (kids y.r)[t]? = some k → k ∈ x.S) ⟨0, 0, S, some ⟨gp, 0, none⟩, c⟩ ⟨Nat.zero_le _, hI, hx, fun t k h => absurd h (Nat.not_lt_zero _)⟩ ⟨rfl, rfl, rfl, rfl, rfl, rfl, rfl, trivial⟩ uI ?_
  clear hI hx
  rintro ⟨_, j, S, p, c⟩ ⟨hj, hI, hx, hall⟩
  simp only at hj hI hx hall ⊢
  have hSl := hI.len
  refine qK (qI (uB (y_lt rfl rfl) ?_))
  refine qL (qJ (qK ?_))
  refine zD rfl (fun e3 => ?_) (fun e3 => ?_)
  ·have hjl : j < (kids y.r).length := by omega
   obtain ⟨gk, rfl⟩ := hpk (by omega)
   obtain ⟨z, hz⟩ : ∃ z, (kids y.r)[j]? = some z := ⟨_, List.getElem?_eq_getElem hjl⟩
   have hzk := List.mem_of_getElem? hz
   have hz1 := (qEr (hw.ok _ _ hyr) z hzk).1
   have f1 := qCd hz (((j : Nat) : Int).toNat) (by omega)
   refine zB (qJ (qK (zK (qK (qI (uB (uAj rfl rfl) ?_))))))
   refine uL ?_
   refine uA rfl (qL (qJ (qI (uM rfl (uM rfl (uU ?_))))))
   apply qOz (hx := rfl) (ha := rfl) (hf := hgo)
   ·exact qUe (b6 := b6) (b7 := b7) (bm := b19) (z := z) (p := p) (c := c) (S := S) hE hz1 (by omega)
   ·exact uK
   rintro _ _ ⟨rfl, p1, c1, rfl⟩
   simp only [uV, uW]
   by_cases hin : z ∈ S
   ·rw [if_pos hin]
    refine qL (zI (qJ (qI (uB (uAa rfl rfl) ?_))))
    refine uM rfl (qL ?_)
    refine zS (ι := RhG) (j := ⟨0, j + 1, S, p1, c1⟩) ⟨by simp only; omega, hI, hx, fun t k ht hk => ?_⟩ (by simp only; omega) ⟨rfl, rfl, rfl, rfl, rfl, rfl, congrArg some (zW (by simp only; omega)), trivial⟩ uI
    rcases Nat.lt_or_ge t j with h | h
    ·exact hall t k h hk
    obtain rfl : t = j := by simp only at ht; omega
    rw [hz] at hk
    cases hk
    exact hin
   rw [if_neg hin]
   have hI2 := hI.more hw (List.mem_of_getElem? hx) hyr hzk hin
   refine qL (zI (qJ (qI (uB (uAa rfl rfl) ?_))))
   refine uM rfl (qL ?_)
   refine zS (ι := RhG) (j := ⟨0, j + 1, S ++ [z], p1, c1⟩) ⟨by simp only; omega, hI2, by simp only; rw [List.getElem?_append_left (List.getElem?_eq_some_iff.1 hx).1]; exact hx, fun t k ht hk => ?_⟩ (by simp only; omega) ⟨rfl, rfl, rfl, rfl, rfl, rfl, congrArg some (zW (by simp only; omega)), trivial⟩ uI
   rcases Nat.lt_or_ge t j with h | h
   ·exact List.mem_append_left _ (hall t k h hk)
   obtain rfl : t = j := by simp only at ht; omega
   rw [hz] at hk
   cases hk
   simp
  have hii := (List.getElem?_eq_some_iff.1 hx).1
  refine kI (qP (qP (zH (zI (qJ (qI (uM rfl (uB (uAa rfl rfl) ?_))))))))
  refine uA rfl (qL ?_)
  refine zS (ι := RhG) (j := ⟨i + 1, 0, S, p, c⟩) (hI.next hx hyr fun k hk => by
   obtain ⟨t, ht⟩ := List.getElem?_of_mem hk
   exact hall t k (by have := (List.getElem?_eq_some_iff.1 ht).1; omega) ht) (by have := (List.getElem?_eq_some_iff.1 hx).1; simp only; omega) ⟨rfl, rfl, rfl, congrArg some (zW (by simp only; omega)), trivial⟩ uI
 obtain rfl : i = S.length := by omega
 have hall := hI.all
 have hnd := hI.nd
 rcases Nat.eq_zero_or_pos S.length with h0 | h0
 ·obtain rfl : S = [] := List.eq_nil_of_length_eq_zero h0
  refine kI (qP (qP (zH (qJ (qK (qI (uL ?_)))))))
  refine uX (qKa hE) rfl ?_
  rintro _ _ ⟨rfl, rfl⟩
  simp only [uV, uW]
  refine qL (qJ (qK (qI (uL ?_))))
  refine uA rfl (uA rfl (qL (qJ (zZ ?_))))
  exact uZ rfl (.tmp rfl (.tmp rfl .nil)) ⟨p, c, [], rfl, ⟨hnd, hall⟩, rfl⟩
 refine qEj (p := sl p c 40 1 S.length (idC S)) uK (fun _ h => qAw h h0) ?_
 rintro ⟨gp, rfl⟩
 refine kI (qP (qP (zH (qJ (qK (qI (uL ?_)))))))
 refine uX (qNj (l := S) hE (by omega)) rfl ?_
 rintro _ _ ⟨V, rfl, hVl, hVp, hVs, rfl⟩
 rw [← hVl]
 simp only [uV, uW]
 refine qL (qJ (qK (qI (uL ?_))))
 refine uA rfl (uA rfl (qL (qJ (zZ ?_))))
 exact uZ rfl (.tmp rfl (.tmp rfl .nil)) ⟨some ⟨gp, 0, none⟩, c, V, rfl, ⟨hVp.nodup_iff.2 hnd, fun x => hVp.mem_iff.trans (hall x)⟩, rfl⟩
end
section
variable {E : Env}
theorem ct_lOpen (hE : Seat E) {a : Nat} {x0 : Option Fl} {ts : List Tx49} (hF : Fil x0 ts) (hfl : flen x0 ≤ 1000000000) (hw : Wf (qAa Cn.nil ts).G) (hN : ∀ x k, (qAa Cn.nil ts).N x = some k → k ≤ (qAa Cn.nil ts).G.length) :
  Ct E 12 [uPt a] [fsP a flN (flN ++ qAi) x0 none Pwr.on]
   (fun v Q => ∃ d s Es, v = .tuple #[uPt d, .bool true] ∧ rls Es = (qAa Cn.nil ts).G ∧ Q = [fsP a flN (flN ++ qAi) x0 none Pwr.on, zR s 1048576 Es, dsP d a flN s (qAa Cn.nil ts).N (fun _ => false) (idV (qAa Cn.nil ts).G.length) (frs (pays 0 ts)).length]) := by
 have hr := hw.room
 have hmr : qBp = 1048576 := rfl
 have hlen := hF.has.len
 refine zO (hE.fn Tryz.func12) rfl rfl rfl (fun R => ?_)
 simp only [qAd, uV, uW]
 refine qK (qI (uA rfl (uA rfl (qL (qJ (qK (qI (uM rfl ?_))))))))
 refine uX (qOm (n0 := flN) (x0 := x0) (ts := ts) (most := 1048576) hE okFl.1 (by decide) hF.has hF.pay (by omega) hF.fit hw hr (Nat.le_refl _) hN) rfl ?_
 rintro _ _ ⟨d, s, Es, rfl, hEs, rfl⟩
 simp only [uV, uW]
 refine uM rfl (uB (qU rfl rfl) (uB (qU rfl rfl) (uA rfl (uA rfl (qL (qJ (qK (qI (uM rfl (uM rfl ?_))))))))))
 refine uB (zBd rfl (hE.t rfl)) ?_
 refine uM rfl (kP rfl rfl (uM rfl (kP rfl rfl (uB (qVa rfl (hE.t rfl)) ?_))))
 refine uB (qX rfl rfl) ?_
 refine uA rfl (uA rfl (qL (qJ (zZ ?_))))
 exact uZ rfl (.tmp rfl (.tmp rfl .nil)) ⟨d, s, Es, rfl, hEs, rfl⟩
theorem numb_idx {V : List Nat} (h : V.Nodup) {i w : Nat} (hw : V[i]? = some w) : numb V w = i + 1 := by
 have hm := List.mem_of_getElem? hw
 have h1 := qFl hm
 have h2 := qFm hm
 have hi := (List.getElem?_eq_some_iff.1 hw).1
 have := (List.getElem?_inj hi h).1 (hw.trans h1.symm)
 omega
theorem qSh {L : List Rl} {W : List Nat} {f : List UInt8 → Option Nat} {c : Cn} (hD : Dst L W f (fun _ => false) c) (hre : ∀ x ∈ W, ∃ y id, f y = some id ∧ Rea L id x) : ∀ y, 1 ≤ y → y ≤ c.G.length → ∃ x id, c.N x = some id ∧ Rea c.G id y := fun y h1 h2 => by
 have hlen : c.G.length = W.length := by rw [hD.gr, qCj]
 obtain ⟨w, hw⟩ : ∃ w, W[y - 1]? = some w := ⟨_, List.getElem?_eq_getElem (by omega)⟩
 have hwm := List.mem_of_getElem? hw
 have hnu := numb_idx hD.lis.acc.1 hw
 obtain ⟨nm, id, hf, hr⟩ := hre w hwm
 have hidW : id ∈ W := by
  rcases hD.inV nm id rfl hf with rfl | e
  ·cases hr
  exact e
 refine ⟨nm, numb W id, by rw [hD.nm nm rfl, hf]; rfl, ?_⟩
 have := rea_gram hD.lis hr hidW
 rw [hnu, show y - 1 + 1 = y by omega, ← hD.gr] at this
 exact this
theorem all_len {n : Nat} {V : List Nat} (hn : V.Nodup) (h : ∀ x, x ∈ V ↔ 1 ≤ x ∧ x ≤ n) : V.length = n := by
 have hp : V.Perm (idV n) := (List.perm_ext_iff_of_nodup hn (qIc n)).2 fun x => by rw [h, qMe]
 rw [hp.length_eq, qJe]
structure SlG49 where
 i : Nat
 tm : List UInt8 → Option (List UInt8)
structure CuG49 where
 f : List UInt8 → Option Nat
 ch : List UInt8 → Bool
 tm : List UInt8 → Option (List UInt8)
structure RtG49 where
 i : Nat
 p : Option Addr
 c : Nat
def idsF (N : List UInt8 → Option Nat) (l : List (List UInt8)) : List Nat := l.map fun x => (N x).getD 0
theorem qUg (N : List UInt8 → Option Nat) (l : List (List UInt8)) : (idsF N l).length = l.length := List.length_map _
theorem qZd {N : List UInt8 → Option Nat} {l : List (List UInt8)} {i id : Nat} {x : List UInt8} (h : l[i]? = some x) (hid : N x = some id) : idsF N (l.take (i + 1)) = idsF N (l.take i) ++ [id] := by
 unfold idsF
 rw [List.take_add_one, h, List.map_append]
 congr 1
 show [(N x).getD 0] = [id]
 rw [hid]
 rfl
theorem DB.more {L : List Rl} {V : List Nat} {f : List UInt8 → Option Nat} {ch : List UInt8 → Bool} {x0 : Option Fl} {tm : List UInt8 → Option (List UInt8)} {k k' j : Nat} (h : DB L V f ch x0 tm k j) (hk : k ≤ k') : DB L V f ch x0 tm k' j := by
 obtain ⟨D, d1, d2⟩ := h.fin
 obtain ⟨D2, d3, d4⟩ := h.fic
 have := h.len
 exact ⟨h.fil, by omega, h.siz, ⟨D, by omega, d2⟩, ⟨D2, by omega, d4⟩, h.nms, h.tms⟩
theorem qKm (hE : Seat E) {l : List (List UInt8 × List UInt8)} {q : Option Addr} {ca : Nat} {dr : Int} (hq : Rdb E.w0 q (ssC l) old) (hn : l.length ≤ maxLen) (hd1 : -9223372036854775808 ≤ dr) (hd2 : dr ≤ 9223372036854775807) :
  Ct E 6 [.slice q l.length ca, .int .i64 dr] [old] (fun v Q => v = .bool true ∧ Q = [old]) := by
 have hne : 0 < l.length → ssC l ≠ [] := fun h e => by
  have := qTt l
  rw [e] at this
  simp at this
  omega
 refine zO (hE.fn Tryz.func6) rfl rfl rfl (fun R => ?_)
 simp only [qAd, uV, uW]
 refine qK (qI (uA rfl (qL (qJ (qK (qK (qI (uX (ct_alive hE) rfl ?_))))))))
 rintro _ _ ⟨rfl, rfl⟩
 simp only [uV, uW]
 refine uB (qBf rfl) ?_
 refine qL (qJ (zC rfl (zB (qJ (qK (qK (qI (uM rfl (uB (uBl rfl) ?_)))))))))
 refine uB (y_eq rfl rfl) ?_
 refine uM rfl ?_
 refine qAl 26 rfl (fun c1 => ?_) (fun c1 => ?_)
 ·refine zT rfl rfl rfl rfl (zT rfl rfl rfl rfl (zT rfl rfl rfl rfl ?_))
  refine uB (qX rfl rfl) ?_
  refine qL (qJ (zF rfl (qK (qI (uA rfl (qL (qJ (zZ (qW ?_)))))))))
  exact uZ rfl (.tmp rfl .nil) ⟨rfl, rfl⟩
 refine kP rfl rfl (uM rfl (kP rfl rfl (uB (uBl rfl) ?_)))
 refine kP rfl rfl (uB (y_gt rfl rfl) ?_)
 refine uB (qY rfl rfl) ?_
 refine qL (qJ ?_)
 refine zD rfl (fun c2 => ?_) (fun c2 => ?_)
 ·refine qK (qI ?_)
  refine uA rfl (qL (qJ (zZ (qW ?_))))
  exact uZ rfl (.tmp rfl .nil) ⟨rfl, rfl⟩
 refine zB (qJ (qK (qI (uX (qYa hE) rfl ?_))))
 rintro _ _ ⟨a, rfl, rfl⟩
 simp only [uV, uW]
 refine uA rfl (qL (qJ (qK (qI (uM rfl (uX (qOo (a := a) (k := 0) (j := 0) (tm0 := tm00) hE (by omega)) rfl ?_))))))
 rintro _ _ ⟨d, rfl, rfl⟩
 simp only [uV, uW]
 refine uM rfl (uB (qU rfl rfl) (uB (qU rfl rfl) (uA rfl (uA rfl (qL (qJ (qK (qK (qI (uM rfl (uB (qBf rfl) ?_)))))))))))
 refine qL (qJ (zC rfl (zB (qJ (qK (qK (qI (uA rfl (qL (qJ (zK ?_)))))))))))
 refine qAh (fun x : SlG49 => [(0, .slice q l.length ca), (1, .int .i64 dr), (5, uPt a), (6, uPt d), (8, .int .i64 (x.i : Nat))]) (fun x => [old, dbP d a x.tm x.tm x.i x.i, R]) (fun x => l.length - x.i) (fun x => x.i ≤ l.length ∧ (∀ p ∈ l.take x.i, x.tm p.1 ≠ none ∧ okN p.1) ∧ ∀ y t, x.tm y = some t → t.length ≤ 100) ⟨0, tm00⟩ ⟨Nat.zero_le _, (fun p h => by simp at h), fun y t h => by cases h⟩ ⟨rfl, rfl, rfl, rfl, rfl, trivial⟩ uI ?_
 rintro ⟨i, tm⟩ ⟨hi, hall, htm⟩
 simp only at hi hall htm ⊢
 obtain ⟨g, o, rfl, hq'⟩ := hq (hne (by omega))
 refine qK (qK (qI (uM rfl (uM rfl (uB (uBl rfl) ?_)))))
 refine uB (y_lt rfl rfl) ?_
 refine qL (qJ ?_)
 refine zD rfl (fun h1 => ?_) (fun h1 => ?_)
 ·have hil : i < l.length := by omega
  obtain ⟨⟨nm, tx⟩, hx⟩ : ∃ x, l[i]? = some x := ⟨_, List.getElem?_eq_getElem hil⟩
  obtain ⟨f0, f1⟩ := qRy hx (((i : Nat) : Int).toNat * 2) (by omega)
  simp only at f0 f1
  have hsz : (⟨⟨tx⟩⟩ : ByteArray).size = tx.length := rfl
  refine zB (qJ (qK (zK (qK (qK (qI (uM rfl (uM rfl (uB (uAi rfl rfl) ?_)))))))))
  refine uB (uBf rfl) ?_
  apply qA
  ·(apply zJ rfl (hE.t rfl) rfl (by assumption); (focus ((repeat constructor); done)); (first | ((focus exact f0); (focus omega)) | ((focus exact f1); (focus omega)) | ((focus assumption); (focus omega))))
  ·rfl
  by_cases hk : 1 ≤ nm.length ∧ nm.length ≤ 32
  ·apply qH (by kernel_rfl) rfl
   refine uC (qVt hE hk) rfl ?_
   rintro _ _ ⟨rfl, rfl⟩
   simp only [uV, uW]
   refine uB (qBf rfl) ?_
   refine uM rfl (kP rfl rfl (uM rfl (kP rfl rfl (uM rfl (kP rfl rfl (uB (uAi rfl rfl) ?_))))))
   refine kP rfl rfl (uB (uBf rfl) ?_)
   refine kP rfl rfl ?_
   apply qA
   ·(apply zJ rfl (hE.t rfl) rfl (by assumption); (focus ((repeat constructor); done)); (first | ((focus exact f0); (focus omega)) | ((focus exact f1); (focus omega)) | ((focus assumption); (focus omega))))
   ·rfl
   refine kP rfl rfl (uB (qBt rfl (hE.t rfl)) ?_)
   refine kP rfl rfl (uB (y_gt rfl rfl) ?_)
   refine uB (qY rfl rfl) ?_
   refine qL (qJ ?_)
   refine zD rfl (fun h2 => ?_) (fun h2 => ?_)
   ·refine qK (qI ?_)
    refine uA rfl (qL (qJ (zZ (qW (zN (qW (qW (zN (qW ?_)))))))))
    exact uZ rfl (.tmp rfl .nil) ⟨rfl, rfl⟩
   refine zB (qJ (qK ?_))
   refine uH ([old]) ?_
   refine uD 0 rfl (qB rfl) ?_
   refine uD 1 rfl (qB rfl) ?_
   refine uD 2 rfl (qB rfl) ?_
   refine uD 3 rfl (uAi rfl rfl) ?_
   refine uD 4 rfl (uBf rfl) ?_
   apply zG 5 rfl
   ·(apply zJ rfl (hE.t rfl) rfl (by assumption); (focus ((repeat constructor); done)); (first | ((focus exact f0); (focus omega)) | ((focus exact f1); (focus omega)) | ((focus assumption); (focus omega))))
   ·with_reducible (repeat (first | exact qE | apply qF | apply qG))
   ·kernel_rfl
   ·rfl
   refine uD 6 rfl (qB rfl) ?_
   refine uD 7 rfl (qB rfl) ?_
   refine uD 8 rfl (uAi rfl rfl) ?_
   refine uD 9 rfl (uBf rfl) ?_
   apply zG 10 rfl
   ·(apply zJ rfl (hE.t rfl) rfl (by assumption); (focus ((repeat constructor); done)); (first | ((focus exact f0); (focus omega)) | ((focus exact f1); (focus omega)) | ((focus assumption); (focus omega))))
   ·with_reducible (repeat (first | exact qE | apply qF | apply qG))
   ·kernel_rfl
   ·rfl
   apply kK 11 rfl (by kernel_rfl) rfl
   refine uC (qSs (k := i) (j := i) (tm := tm) (tm0 := tm) (n := nm) (t := tx) hE hk (by omega) (by omega)) rfl ?_
   rintro _ _ ⟨rfl, rfl⟩
   simp only [uV, uW]
   refine uE ?_
   refine uD 12 rfl (qAe rfl (hE.t rfl)) ?_
   refine uD 13 rfl (qB rfl) ?_
   refine uO 14 rfl rfl rfl (qB rfl) ?_
   apply qYo 15 rfl rfl rfl (by kernel_rfl) rfl
   refine uC (qNi (k := i + 1) (j := i) (tm := updT tm nm tx) (tm0 := tm) hE (by omega) (by omega)) rfl ?_
   rintro _ _ ⟨rfl, rfl⟩
   simp only [uV, uW]
   refine uE ?_
   refine uO 16 rfl rfl rfl (qAe rfl (hE.t rfl)) ?_
   refine uD 17 rfl (qY rfl rfl) ?_
   refine qDi (by kernel_rfl) ?_
   refine qJ (zC rfl (zB (zI (qJ (qI (uM rfl (uB (uAa rfl rfl) ?_)))))))
   refine uA rfl (qL ?_)
   refine zS (ι := SlG49) (j := ⟨i + 1, updT tm nm tx⟩) ⟨by simp only; omega, fun p hp => ?_, updT_le htm (by omega)⟩ (by simp only; omega) ⟨rfl, rfl, rfl, rfl, congrArg some (zW (by simp only; omega)), trivial⟩ uI
   have hup : ∀ y, tm y ≠ none → updT tm nm tx y ≠ none := fun y hy => by
    unfold updT
    split
    ·simp
    exact hy
   rw [List.take_add_one, hx] at hp
   rcases List.mem_append.1 hp with h | h
   ·exact ⟨hup _ (hall p h).1, (hall p h).2⟩
   simp at h
   subst h
   refine ⟨?_, hk⟩
   show updT tm nm tx nm ≠ none
   unfold updT
   rw [if_pos rfl]
   simp
  apply qH (by kernel_rfl) rfl
  refine uC (qVs hE hk) rfl ?_
  rintro _ _ ⟨rfl, rfl⟩
  simp only [uV, uW]
  refine uB (qBf rfl) ?_
  refine uM rfl ?_
  refine zT rfl rfl rfl rfl (zT rfl rfl rfl rfl (zT rfl rfl rfl rfl (zT rfl rfl rfl rfl (zT rfl rfl rfl rfl (zT rfl rfl rfl rfl (zT rfl rfl rfl rfl ?_))))))
  refine uB (qX rfl rfl) ?_
  refine qL (qJ (zF rfl (qK (qI (uA rfl (qL (qJ (zZ (qW (zN (qW (qW (zN ?_)))))))))))))
  refine qW ?_
  exact uZ rfl (.tmp rfl .nil) ⟨rfl, rfl⟩
 obtain rfl : i = l.length := by omega
 rw [List.take_length] at hall
 refine kI (qP (qP (zH (qJ ?_))))
 refine qHd (p := dbP d a tm tm l.length l.length) (ps := fun i : {i : DbG // DB (rls i.Es) i.V i.f i.ch i.x0 tm l.length l.length ∧ FB i.x0 tm l.length l.length} => [dsP d a flN i.1.s i.1.f i.1.ch i.1.V (flen i.1.x0), zR i.1.s 1048576 i.1.Es, fsP a flN (flN ++ qAi) i.1.x0 none Pwr.on]) uK (fun k ⟨i, hi, h⟩ => ⟨⟨i, hi⟩, h⟩) ?_
 rintro ⟨⟨Es, s, V, f, ch, x0⟩, hd, hb⟩
 simp only at hd hb ⊢
 simp only [uV, uW]
 refine qDm (fun z : CuG49 => [(5, uPt a), (6, uPt d)]) (fun z => [dsP d a flN s z.f z.ch V (flen x0), zR s 1048576 Es, fsP a flN (flN ++ qAi) x0 none Pwr.on, old, R]) (fun z => DB (rls Es) V z.f z.ch x0 z.tm (l.length + 1) l.length ∧ ∀ y t, z.tm y = some t → t.length ≤ 100) ?_ ?_
 ·refine qK (qI ?_)
  refine uM rfl (uB (y_ge rfl rfl) ?_)
  refine uM rfl ?_
  refine qAl 81 rfl (fun c3 => ?_) (fun c3 => ?_)
  ·have hm1 : 0 ≤ dr % (l.length : Int) := Int.emod_nonneg _ (by omega)
   have hm2 : dr % (l.length : Int) < (l.length : Int) := Int.emod_lt_of_pos _ (by omega)
   obtain ⟨⟨nm, tx⟩, hx⟩ : ∃ x, l[(dr % (l.length : Int)).toNat]? = some x := ⟨_, List.getElem?_eq_getElem (by omega)⟩
   obtain ⟨f0, f1⟩ := qRy hx ((dr % (l.length : Int)).toNat * 2) rfl
   simp only at f0 f1
   obtain ⟨h3, h4⟩ := hall _ (List.mem_of_getElem? hx)
   simp only at h3 h4
   obtain ⟨id, hid⟩ : ∃ id, f nm = some id := by
    rw [← hd.tms] at h3
    have := zAu.1 h3
    cases e : f nm with
    | none => exact absurd e this
    | some id => exact ⟨id, rfl⟩
   refine kP rfl rfl (uM rfl (kP rfl rfl (uM rfl (kP rfl rfl (uM rfl (kP rfl rfl (uM rfl (kP rfl rfl (uB (uBl rfl) ?_)))))))))
   refine kP rfl rfl (uB (y_rem rfl rfl (by omega) (by omega)) ?_)
   refine kP rfl rfl (uB (uAi rfl rfl) ?_)
   refine kP rfl rfl (uB (uBf rfl) ?_)
   refine kP rfl rfl ?_
   apply qA
   ·(apply zJ rfl (hE.t rfl) rfl (by assumption); (focus ((repeat constructor); done)); (first | ((focus exact f0); (focus omega)) | ((focus exact f1); (focus omega)) | ((focus assumption); (focus omega))))
   ·rfl
   refine kP rfl rfl (uX (ct_dDrop (k := nm) hE hid) rfl ?_)
   rintro _ _ ⟨rfl, rfl⟩
   simp only [uV, uW]
   refine kP rfl rfl (uB (qAe rfl (hE.t rfl)) ?_)
   refine uB (qX rfl rfl) ?_
   refine qL (qJ (zC rfl (zB ?_)))
   refine qBe (ι := CuG49) ⟨delN f nm, fun x => x == nm || ch x, fun x => if x = nm then none else tm x⟩ ⟨hd.drop h4, fun y t h => ?_⟩ ⟨rfl, rfl, trivial⟩ ?_
   ·simp only at h
    split at h
    ·cases h
    exact htm y t h
   exact uI
  refine zT rfl rfl rfl rfl (zT rfl rfl rfl rfl (zT rfl rfl rfl rfl (zT rfl rfl rfl rfl (zT rfl rfl rfl rfl (zT rfl rfl rfl rfl (zT rfl rfl rfl rfl (zT rfl rfl rfl rfl ?_)))))))
  refine zT rfl rfl rfl rfl (zT rfl rfl rfl rfl (zT rfl rfl rfl rfl ?_))
  refine uB (qY rfl rfl) ?_
  refine qL (qJ (zC rfl (zB ?_)))
  refine qBe (ι := CuG49) ⟨f, ch, tm⟩ ⟨hd.more (by omega), htm⟩ ⟨rfl, rfl, trivial⟩ ?_
  exact uI
 clear hd hb htm hall
 rintro ⟨f, ch, tm⟩ ⟨hd, htm⟩
 simp only at hd htm ⊢
 have hL := hd.len
 rw [zQ] at hL
 obtain ⟨ts0, h1, h2⟩ := hd.fil
 have hids : ∀ x id, f x = some id → id ≤ Es.length := fun x id h => by
  have := h2.ids x id h
  rwa [zQ] at this
 refine qK (qK (qI (uM rfl ?_)))
 refine uX (qMy (Es := Es) (s := s) (most := 1048576) (p := Pwr.on) (m := l.length + 1) hE Pwr.on_up Pwr.on_up Pwr.on_up okFl.1 (by decide) h2.lis.wf hids hd.nms hd.fin (by omega)) rfl ?_
 rintro _ _ ⟨W, lw, rfl, ⟨l1, l2, l3, l4, l5⟩, rfl⟩
 rw [on3]
 rw [← zQ] at l4
 obtain ⟨hF, hD, hsz⟩ := hd.checkF (by omega) l1 l2 l3.1 l4 l5
 obtain ⟨hwG, hDG, htG⟩ := hD.reopen
 have hre := qSh hD l3.2
 have hND : finF (qAa Cn.nil [cmtT (rls Es) [] W f lw]).N (l.length + 1) := by
  obtain ⟨D, e1, e2⟩ := hd.fin
  refine ⟨D, e1, fun x hx => e2 x fun e => hx ?_⟩
  rw [hD.nm x rfl, e]
  rfl
 obtain ⟨x1, hx1⟩ : ∃ x1 : Option Fl, x1 = some ⟨frm ((cmtT (rls Es) [] W f lw).pay 0), (frm ((cmtT (rls Es) [] W f lw).pay 0)).length⟩ := ⟨_, rfl⟩
 have hfl : flen x1 ≤ 1000000000 := by
  rw [hx1]
  show (frm ((cmtT (rls Es) [] W f lw).pay 0)).length ≤ _
  omega
 rw [← hx1] at hF ⊢
 clear hx1
 generalize [cmtT (rls Es) [] W f lw] = ts at hF hD hwG hDG htG hre hND
 have hgl := hwG.room
 have hlen := hF.has.len
 have hflp : (frs (pays 0 ts)).length ≤ 1000000000 := by omega
 have hmr : qBp = 1048576 := rfl
 have hG65 : (qAa Cn.nil ts).G.length < 65536 := by
  rw [hD.gr, qCj]
  have := hD.lis.acc.len
  rw [zQ] at this
  omega
 have hidG : ∀ Es' : List Ent, rls Es' = (qAa Cn.nil ts).G → ∀ x id, (qAa Cn.nil ts).N x = some id → id ≤ Es'.length ∧ (txt (rls Es') id).length ≤ 5000 := fun Es' hEs x id h => by
  have h3 := hDG.ids x id h
  rw [← hEs, zQ] at h3
  refine ⟨h3, ?_⟩
  have := htm x (txt (rls Es') id) (by
   rw [← hd.tms, ← htG]
   unfold txm
   rw [h, hEs]
   rfl)
  omega
 clear l1 l2 l3 l4 l5 hsz h1 h2 hD
 simp only [uV, uW]
 refine uB (qAe rfl (hE.t rfl)) ?_
 refine qL (qJ (zC rfl (zB (qJ (qK (qI (uM rfl (uX (ct_lOpen (a := a) (x0 := x1) (ts := ts) hE hF hfl hwG hDG.ids) rfl ?_))))))))
 rintro _ _ ⟨d2, s2, Es2, rfl, hEs2, rfl⟩
 have hE2l : Es2.length = (qAa Cn.nil ts).G.length := by rw [← zQ, hEs2]
 simp only [uV, uW]
 refine uM rfl (uB (qU rfl rfl) (uB (qU rfl rfl) (uA rfl (uA rfl (qL (qJ (qK (qK (qI (uM rfl (uB (qBf rfl) ?_)))))))))))
 refine qL (qJ (zC rfl (zB (qJ (qK (qI (uM rfl ?_)))))))
 refine uX (qIv (d := d2) (Es := Es2) (s := s2) (most := 1048576) (m := l.length + 1) hE hND (by omega) (hidG Es2 hEs2)) rfl ?_
 rintro _ _ ⟨lw2, qw, cw, rfl, hKw, rfl⟩
 have hA := qOv (L := rls Es2) hKw
 have hAl : (entL (rls Es2) (qAa Cn.nil ts).N lw2).length ≤ l.length + 1 := by
  obtain ⟨D, e1, e2⟩ := hND
  have h1 := qCs hKw.nd (B := D) fun x hx => e2 x (qEy.1 ((hKw.mem x).1 hx))
  have h2 : (entL (rls Es2) (qAa Cn.nil ts).N lw2).length ≤ lw2.length := List.length_filterMap_le _ _
  omega
 generalize entL (rls Es2) (qAa Cn.nil ts).N lw2 = A at hA hAl ⊢
 simp only [uV, uW]
 refine uM rfl (uB (qU rfl rfl) (uB (qU rfl rfl) (uA rfl (uA rfl (qL (qJ (qK (qK (qI (uM rfl (uB (qBf rfl) ?_)))))))))))
 refine qL (qJ (zC rfl (zB (qJ (qK (qI (uA rfl (qL (qJ (qK (qI (uM rfl ?_))))))))))))
 refine uX (qLk (f := (qAa Cn.nil ts).N) (m := l.length + 1) hE hND (by omega)) rfl ?_
 rintro _ _ ⟨l2, q2, c2, rfl, hK2, rfl⟩
 have hl2 : l2.length ≤ l.length + 1 := by
  obtain ⟨D, e1, e2⟩ := hND
  have h1 := qCs hK2.nd (B := D) fun x hx => e2 x (qEy.1 ((hK2.mem x).1 hx))
  omega
 have hsm : ∀ x ∈ l2, ∃ id, (qAa Cn.nil ts).N x = some id := fun x hx => by
  have := qEy.1 ((hK2.mem x).1 hx)
  cases e : (qAa Cn.nil ts).N x with
  | none => exact absurd e this
  | some id => exact ⟨id, rfl⟩
 simp only [uV, uW]
 refine qId (p := sl q2 c2 9 1 l2.length (nmC l2)) uK (fun _ h => fun hpos => qAw h hpos) ?_
 intro hqn
 refine uA rfl (qL (qJ (qK (qK (qI (uA rfl (qL (qJ (zK ?_)))))))))
 refine qAr (qCi (t := 40) (sz := 1)) ?_
 refine qAh (fun x : RtG49 => [(5, uPt a), (6, uPt d2), (9, .slice qw A.length cw), (10, .slice x.p (idsF (qAa Cn.nil ts).N (l2.take x.i)).length x.c), (11, .slice q2 l2.length c2), (12, .int .i64 (x.i : Nat))]) (fun x => [dsP d2 a flN s2 (qAa Cn.nil ts).N (fun _ => false) (idV (qAa Cn.nil ts).G.length) (frs (pays 0 ts)).length, zR s2 1048576 Es2, fsP a flN (flN ++ qAi) x1 none Pwr.on, sl qw cw 51 2 A.length (ssC A), sl q2 c2 9 1 l2.length (nmC l2), sl x.p x.c 40 1 (idsF (qAa Cn.nil ts).N (l2.take x.i)).length (idC (idsF (qAa Cn.nil ts).N (l2.take x.i))), old, R]) (fun x => l2.length - x.i) (fun x => x.i ≤ l2.length) ⟨0, none, 0⟩ (Nat.zero_le _) ⟨rfl, rfl, rfl, rfl, rfl, rfl, trivial⟩ uI ?_
 rintro ⟨i, p, c⟩ hi
 simp only at hi ⊢
 refine qK (qK (qI (uM rfl (uM rfl (uB (uBl rfl) ?_)))))
 refine uB (y_lt rfl rfl) ?_
 refine qL (qJ ?_)
 refine zD rfl (fun h1 => ?_) (fun h1 => ?_)
 ·obtain ⟨x, hx⟩ : ∃ x, l2[i]? = some x := ⟨_, List.getElem?_eq_getElem (by omega)⟩
  obtain ⟨gn, rfl⟩ := hqn (by omega)
  have f0 := qKd hx (((i : Nat) : Int).toNat) (by omega)
  obtain ⟨id, hid⟩ := hsm x (List.mem_of_getElem? hx)
  have hil : (idsF (qAa Cn.nil ts).N (l2.take i)).length = i := by rw [qUg, List.length_take]; omega
  refine zB (qJ (qK (zK (qK (qI (uM rfl (uM rfl (uM rfl (uB (uAj rfl rfl) ?_)))))))))
  refine uL ?_
  refine uX (qXv hE hid) rfl ?_
  rintro _ _ ⟨rfl, rfl⟩
  simp only [uV, uW]
  refine uM rfl (uB (qU rfl rfl) (uB (qU rfl rfl) (uA rfl (uA rfl (qL (qJ (qK (qK (qI (uM rfl ?_))))))))))
  refine uB (qAe rfl (hE.t rfl)) ?_
  refine qL (qJ (zC rfl (zB (qJ (qI (uM rfl (uM rfl (uU ?_))))))))
  refine qV (hE.t rfl) (hE.t rfl) rfl rfl rfl (fun b132 => ?_)
  refine uU ?_
  apply zU (hE.t rfl) (hE.t rfl) rfl rfl rfl
  ·exact uK
  ·exact uK
  ·rfl
  ·rfl
  ·omega
  ·omega
  ·(unfold maxLen; omega)
  intro g133 c133 n133 x133 hn133 hx133
  refine uA rfl (qL (zI (qJ (qI (uM rfl (uB (uAa rfl rfl) ?_))))))
  refine uA rfl (qL ?_)
  have e1 := qZd (N := (qAa Cn.nil ts).N) hx hid
  obtain rfl : n133 = (idsF (qAa Cn.nil ts).N (l2.take (i + 1))).length := by rw [hn133, e1, List.length_append]; rfl
  obtain rfl : x133 = idC (idsF (qAa Cn.nil ts).N (l2.take (i + 1))) := by rw [hx133, e1, qCw]; rfl
  refine zS (ι := RtG49) (j := ⟨i + 1, some ⟨g133, 0, none⟩, c133⟩) (by simp only; omega) (by simp only; omega) ⟨rfl, rfl, rfl, rfl, rfl, congrArg some (zW (by simp only; omega)), trivial⟩ uI
 obtain rfl : i = l2.length := by omega
 rw [List.take_length]
 have hX : ∀ a ∈ (idsF (qAa Cn.nil ts).N l2), a ≤ Es2.length := fun a ha => by
  obtain ⟨x, hx, rfl⟩ := List.mem_map.1 ha
  obtain ⟨id, hid⟩ := hsm x hx
  rw [hid]
  exact (hidG Es2 hEs2 x id hid).1
 have hXl := qUg (qAa Cn.nil ts).N l2
 refine kI (qP (qP (zH (qJ (qK (qI (uM rfl (uX (qFt hE) rfl ?_))))))))
 rintro _ _ ⟨rfl, rfl⟩
 simp only [uV, uW]
 refine uM rfl (uX (qXo (Es := Es2) (s := s2) (most := 1048576) (X := (idsF (qAa Cn.nil ts).N l2)) (q := p) (cq := c) hE hX (by omega) (by omega)) rfl ?_)
 rintro _ _ ⟨pv, cv, Vr, rfl, ⟨hVn, hVm⟩, rfl⟩
 have hVl : Vr.length = Es2.length := all_len hVn fun x => by
  rw [hVm]
  constructor
  ·rintro ⟨b, _, hr⟩
   have := hr.le
   rwa [zQ] at this
  rintro ⟨e1, e2⟩
  obtain ⟨y, id, hy, hr⟩ := hre x e1 (by omega)
  refine ⟨id, List.mem_map.2 ⟨y, (hK2.mem y).2 (qEy.2 (by rw [hy]; simp)), by rw [hy]; rfl⟩, ?_⟩
  rw [hEs2]
  exact hr
 simp only [uV, uW]
 refine uM rfl (uB (qU rfl rfl) (uB (qU rfl rfl) (uA rfl (uA rfl (qL (qJ (qK (qK (qI (uM rfl ?_))))))))))
 refine uB (qAe rfl (hE.t rfl)) ?_
 refine qL (qJ (zC rfl (zB (qJ ?_))))
 refine qDm (fun _ : Unit => [(5, uPt a), (9, .slice qw A.length cw), (15, .slice pv Vr.length cv)]) (fun _ => [fsP a flN (flN ++ qAi) x1 none Pwr.on, sl qw cw 51 2 A.length (ssC A), old, R]) (fun _ => True) ?_ ?_
 ·refine qK (qI ?_)
  refine uM rfl (uB (uBl rfl) ?_)
  refine uB (y_gt rfl rfl) ?_
  refine qL (qJ ?_)
  refine zD rfl (fun h2 => ?_) (fun h2 => ?_)
  ·refine qK (qI ?_)
   refine uM rfl (uM rfl (uB (uBl rfl) ?_))
   refine uB (uAs rfl rfl) ?_
   refine l_eq 150 (.int .i64 ((Vr.length - 1 : Nat) : Int)) rfl (zW (by omega)) ?_
   refine uX (qQo (n0 := flN) (x0 := x1) (ts := ts) (most := Vr.length - 1) hE okFl.1 (by decide) hF.has hF.pay hflp hF.fit hwG (by omega) hDG.ids) rfl ?_
   rintro _ _ (⟨hbad, _⟩ | ⟨_, rfl, rfl⟩)
   ·exfalso
    omega
   simp only [uV, uW]
   refine uM rfl (uB (qU rfl rfl) (uB (qU rfl rfl) (uA rfl (uA rfl (qL (qJ (qK (qI (uM rfl ?_)))))))))
   refine uX (ct_Is (i := 3) hE (by omega)) rfl ?_
   rintro _ _ ⟨rfl, rfl⟩
   simp only [uV, uW]
   refine uB (qBf rfl) ?_
   refine qL (qJ (zC rfl (zB ?_)))
   refine qBe (ι := Unit) () trivial ⟨rfl, rfl, rfl, trivial⟩ ?_
   exact uI
  refine zB ?_
  refine qBe (ι := Unit) () trivial ⟨rfl, rfl, rfl, trivial⟩ ?_
  exact uI
 rintro - -
 refine qK (qI (uM rfl (uM rfl (uB (uBl rfl) ?_))))
 refine uX (qOm (n0 := flN) (x0 := x1) (ts := ts) (most := Vr.length) hE okFl.1 (by decide) hF.has hF.pay hflp hF.fit hwG (by omega) (by omega) hDG.ids) rfl ?_
 rintro _ _ ⟨d3, s3, Es3, rfl, hEs3, rfl⟩
 simp only [uV, uW]
 refine uM rfl (uB (qU rfl rfl) (uB (qU rfl rfl) (uA rfl (uA rfl (qL (qJ (qK (qK (qI (uM rfl ?_))))))))))
 refine uB (qAe rfl (hE.t rfl)) ?_
 refine qL (qJ (zC rfl (zB (qJ (qK (qI (uM rfl ?_)))))))
 refine uX (qIv (d := d3) (Es := Es3) (s := s3) (most := Vr.length) (m := l.length + 1) hE hND (by omega) (hidG Es3 hEs3)) rfl ?_
 rintro _ _ ⟨lw3, q3, c3, rfl, hK3, rfl⟩
 have hB := qOv (L := rls Es3) hK3
 rw [hEs3] at hB
 rw [hEs2] at hA
 rw [hEs3]
 generalize entL (qAa Cn.nil ts).G (qAa Cn.nil ts).N lw3 = B at hB ⊢
 obtain rfl := hB.fn hA
 simp only [uV, uW]
 refine uM rfl (uB (qU rfl rfl) (uB (qU rfl rfl) (uA rfl (uA rfl (qL (qJ (qK (qI (uM rfl (uM rfl (kP rfl rfl (uM rfl ?_))))))))))))
 refine kP rfl rfl (uM rfl (kP rfl rfl (uX (qUd (A := B) (B := B) hE (by omega)) rfl ?_)))
 rintro _ _ ⟨rfl, rfl⟩
 simp only [uV, uW]
 refine uB (qX rfl rfl) ?_
 refine uA rfl (qL (qJ (zZ ?_)))
 exact uZ rfl (.tmp rfl .nil) ⟨congrArg Value.bool (by simp), rfl⟩
theorem qLg (hE : Seat E) {l : List (List UInt8 × List UInt8)} {q : Option Addr} {ca : Nat} {dr : Int} (hq : Rdb E.w0 q (ssC l) old) (hn : l.length ≤ maxLen) (hd1 : -9223372036854775808 ≤ dr) (hd2 : dr ≤ 9223372036854775807) :
  Ct E 6 [.slice q l.length ca, .int .i64 dr] [] (fun v Q => v = .bool true ∧ Q = []) := ct_unold (qKm hE hq hn hd1 hd2)
end
end Go.Proofs.YtddfnkijolfhbaaGreat
